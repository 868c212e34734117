import Derived.Test.YtlobhcgbmpcdlaaGreatDoorBmC
import Derived.Laws.BytesArg
import Derived.Lib.ConvBytes
import Derived.MapKept
open Bool (and_eq_true)
section
namespace Go.Bm
set_option linter.unusedVariables false
set_option linter.unusedSimpArgs false
section
variable {P : Program} {R : Type} {w0 : World} {Φ0 own0 : Nat → Prop} {N : Frm} {w : World} {Φ : Nat → Prop} {β : Loc} {s : St} {a : Act}
variable {cx : Cx} {o : Oper} {next : Act → World → Prop} {Q : Exit → Act → World → Prop} {k : St → Option R} {r : R}
theorem b2R (hcx : CxOk P cx) (hr : Rel w0 Φ0 own0 N w Φ β s a) (hN : ∀ d, o.dst = some d → N.ok d) (hk : ∀ s' a' w' Φ' β', Rel w0 Φ0 own0 N w' Φ' β' s' a' → k s' = some r → next a' w')
  {c : Call} (ho : o.op = .call c) (hc : c.callee = .builtin .clear) (h : j0 cx o s k = some r) : o.wp P a w next Q := by
 simp only [j0, ho, hc] at h
 split at h
 case h_2 => cases h
 split at h
 · cases h
 · cases h
theorem Flat.take {e : CT} {l : List e.denote} {vs : List Value} (h : Flat w Φ e l vs) (n : Nat) : Flat w Φ e (l.take n) (vs.take (min l.length n * e.size)) := by
 refine ⟨?_, fun v hv => h.2.1 v (List.mem_of_mem_take hv), fun i x hx => ?_⟩
 · have : min l.length n * e.size ≤ vs.length := by rw [h.1]; exact Nat.mul_le_mul_right _ (Nat.min_le_left _ _)
   rw [List.length_take, Nat.min_eq_left this, List.length_take, Nat.min_comm n]
 · rw [nth_getElem?, List.getElem?_take] at hx
   split at hx
   case isFalse => cases hx
   rename_i hi
   have hil : i < l.length := (List.getElem?_eq_some_iff.1 hx).1
   have h2 := h.2.2 i x (by rw [nth_getElem?]; exact hx)
   have h3 : (i + 1) * e.size ≤ min l.length n * e.size := Nat.mul_le_mul_right _ (by omega)
   rw [Nat.add_mul] at h3
   rw [List.drop_take, List.take_take, Nat.min_eq_left (by omega)]
   exact h2
theorem b5u (hcx : CxOk P cx) (hr : Rel w0 Φ0 own0 N w Φ β s a) (hN : ∀ d, o.dst = some d → N.ok d) (hk : ∀ s' a' w' Φ' β', Rel w0 Φ0 own0 N w' Φ' β' s' a' → k s' = some r → next a' w')
  {c : Call} (ho : o.op = .call c) (hc : c.callee = .builtin .copy) (h : j0 cx o s k = some r) : o.wp P a w next Q := by
 simp only [j0, ho, hc] at h
 split at h
 case h_2 => cases h
 split at h
 case h_2 => cases h
 obtain ⟨_, h⟩ := g8 h
 split at h
 · cases h
 · cases h
end
theorem a4U (w : World) (a : Addr) (b : Nat) : (w.freeze a 1).heap[b]? = if a.block = b then (w.heap[b]?).map (fun
  | .cells c elem (lo, hi) => .cells c elem (if lo == hi then (a.off, a.off + 1) else (min lo a.off, max hi (a.off + 1)))
  | o => o) else w.heap[b]? := by
 unfold World.freeze
 rw [if_neg (by decide)]
 simp only [Array.getElem?_modify]
 rfl
theorem Wrote.mark (w : World) (b n : Nat) (hs : ∃ c t f, w.heap[b]? = some (.cells c t f) ∧ c.size = n) (o : Nat) : Wrote w (w.freeze ⟨b, n, none⟩ 1) b o [] := by
 obtain ⟨c, t, ⟨lo, hi⟩, hb, hn⟩ := hs
 have hb' : (w.freeze ⟨b, n, none⟩ 1).heap[b]? = some (.cells c t (if lo == hi then (n, n + 1) else (min lo n, max hi (n + 1)))) := by
  rw [a4U, if_pos rfl, hb]; rfl
 refine ⟨rfl, rfl, rfl, ?_, fun k hk => ?_, fun hf => ?_, ?_, fun j => ?_⟩
 · unfold World.freeze; rw [if_neg (by decide)]; simp
 · rw [a4U, if_neg (fun e => hk e.symm)]
 · intro c' t' f' hc
   rw [hb'] at hc
   have h0 := hf c t (lo, hi) hb
   simp only [Option.some.injEq, Obj.cells.injEq] at hc
   obtain ⟨rfl, rfl, rfl⟩ := hc
   right
   by_cases e : lo = hi
   · rw [if_pos (by simpa using e)]; exact Nat.le_of_eq hn
   · rw [if_neg (by simpa using e)]
     show c.size ≤ min lo n
     simp only at h0
     omega
 · unfold l5; rw [hb', hb]
 · rw [if_neg (by simp)]
   unfold World.cell?
   rw [hb', hb]
section
variable {P : Program} {R : Type} {w0 : World} {Φ0 own0 : Nat → Prop} {N : Frm} {w : World} {Φ : Nat → Prop} {β : Loc} {s : St} {a : Act}
variable {cx : Cx} {o : Oper} {next : Act → World → Prop} {Q : Exit → Act → World → Prop} {k : St → Option R} {r : R}
theorem a6i (hcx : CxOk P cx) {en : Nat} (h : a6h cx.tab en = true) : P.underlying en = some (.int .u8) := by
 unfold a6h at h
 split at h
 · rename_i x htd
   obtain ⟨_, dd, hdd, _, hi, _⟩ := hcx.tab en _ htd
   rw [hdd, hi _ _ rfl]
 · cases h
theorem a7R (w : World) (e : TypeId) (s : ByteArray) : Go.Lib.bytesWorld w e s = w.drew.alloc (.cells (Go.Lib.bytesCells w e s) e ((Go.Lib.bytesCells w e s).size, (Go.Lib.bytesCells w e s).size + 1)) := by
 unfold Go.Lib.bytesWorld World.freeze
 rw [if_neg (by decide)]
 show ({ (w.drew.alloc _) with heap := _ } : World) = _
 have : (w.drew.alloc (.cells (Go.Lib.bytesCells w e s) e)).heap.modify w.heap.size (fun
   | .cells c elem (lo, hi) => .cells c elem (if lo == hi then ((Go.Lib.bytesCells w e s).size, (Go.Lib.bytesCells w e s).size + 1) else (min lo (Go.Lib.bytesCells w e s).size, max hi ((Go.Lib.bytesCells w e s).size + 1)))
   | o => o) = (w.drew.alloc (.cells (Go.Lib.bytesCells w e s) e ((Go.Lib.bytesCells w e s).size, (Go.Lib.bytesCells w e s).size + 1))).heap := by
  refine Array.ext_getElem? fun i => ?_
  rw [Array.getElem?_modify]
  show (if w.heap.size = i then ((w.heap.push _)[i]?).map _ else (w.heap.push _)[i]?) = (w.heap.push _)[i]?
  rw [Array.getElem?_push, Array.getElem?_push]
  by_cases hi : i = w.heap.size
  · subst hi; rw [if_pos rfl, if_pos rfl, if_pos rfl]; rfl
  · rw [if_neg (fun e => hi e.symm), if_neg hi, if_neg hi]
 exact congrArg (fun hp => ({ (w.drew.alloc (.cells (Go.Lib.bytesCells w e s) e)) with heap := hp } : World)) this
theorem Rel.b7H (hr : Rel w0 Φ0 own0 N w Φ β s a) {l : List Int} {cs : Array Value} (t : TypeId) (f : Nat × Nat) (hf : cs.size ≤ f.1)
  (hrow : ∀ (i : Nat) (x : Int), nth l i = some x → cs[i]? = some (.int .u8 x)) (hle : l.length ≤ cs.size) :
  Rel w0 Φ0 own0 N (w.alloc (.cells cs t f)) Φ (β.at s.next (some (w.heap.size, 0))) (s.new (.arr (.int .u8) l)) a ∧
   LfR (w.alloc (.cells cs t f)) Φ (β.at s.next (some (w.heap.size, 0))) (s.new (.arr (.int .u8) l)).heap (.sl s.next none) (.slice (some ⟨w.heap.size, 0, none⟩) l.length cs.size) := by
 have hnew := heap_alloc_new w (.cells cs t f)
 refine ⟨hr.new _ _ 0 (fun _ => o3 rfl) (.inr ⟨w.heap.size, 0, by simp [Loc.at], fun h => absurd (hr.hp.flt _ h) (by omega), fun c t' f' hc => ?_, fun i x hx => ?_⟩), some (w.heap.size, 0), by simp [Loc.at], ⟨_, _, _, rfl⟩, ?_⟩
 · rw [hnew] at hc; cases hc; exact .inr hf
 · refine ⟨[.int .u8 x], ⟨?_, trivial⟩, rfl⟩
   have := hrow i x hx
   unfold World.cell?
   rw [hnew]
   simpa [CT.size] using this
 · intro sz n hrw
   simp only [St.new, j5, if_true, rowOf] at hrw
   cases hrw
   have hbs : l5 (w.alloc (.cells cs t f)) w.heap.size = cs.size := by unfold l5; rw [hnew]
   exact ⟨0, cs.size, rfl, hle, .inl (by simp), by simp, by rw [hbs]; left; simp [CT.size], fun _ => ⟨rfl, by rw [hbs]; simp [CT.size], by decide⟩⟩
theorem b0d (hcx : CxOk P cx) (hr : Rel w0 Φ0 own0 N w Φ β s a) (hN : ∀ d, o.dst = some d → N.ok d) (hk : ∀ s' a' w' Φ' β', Rel w0 Φ0 own0 N w' Φ' β' s' a' → k s' = some r → next a' w')
  {t d : TypeId} {x : Operand} (ho : o.op = .convert t d x) (h : j0 cx o s k = some r) : o.wp P a w next Q := by
 have h0 := h
 simp only [j0, ho] at h
 split at h
 · rename_i td j z k' n htd hd hx
   exact (a2n hcx hr ho (by simp only [C1, ho, hx]) h0).wp hr trivial hN hk
 · rename_i td z b htd hd hx
   obtain ⟨u, hu, _⟩ := (hcx.tab t _ htd).und
   obtain ⟨sx, ex, ex'⟩ := hr.eval hx
   obtain ⟨_, dd, hdd, _, _, hi, _⟩ := hcx.tab d _ hd
   have := hi _ rfl; subst this
   refine s7 hN hk h hr (v := .string sx) ?_ ⟨sx, rfl, ex'⟩
   simp only [execOp, ho, ex, Sem.run_bind, convert, run_underlying hu, run_underlying hdd, Result.andThen_ok]
   cases u <;> simp
 · rename_i td dd v hn1 hn2 htd hd hx
   clear hn1 hn2
   have hv := hr.eval hx
   obtain ⟨u, hu, _⟩ := (hcx.tab t _ htd).und
   unfold a8s at h
   split at h
   ·
    rename_i en str
    obtain ⟨hbt, h⟩ := g8 h
    have he := a6i hcx hbt
    obtain ⟨_, hd2, _⟩ := hcx.tab d _ hd
    obtain ⟨sx, ex, ex'⟩ := hv
    have hrun := Go.Lib.run_convert_string_bytes (P := P) w t d en sx hu hd2 he
    rw [a7R] at hrun
    have hsz : (Go.Lib.bytesCells w en sx).size = grownCap w sx.size 0 en := by
     have hg := grownCap_ge w sx.size 0 en
     unfold Go.Lib.bytesCells
     have : sx.data.size = sx.size := rfl
     simp only [Array.size_append, Array.size_map, Array.size_replicate]
     omega
    have hlen : (bytesOf str).length = sx.size := by
     rw [bytesOf, List.length_map, ← ex']; exact Array.length_toList
    obtain ⟨g1, g2⟩ := hr.drew.b7H (l := bytesOf str) (cs := Go.Lib.bytesCells w en sx) en ((Go.Lib.bytesCells w en sx).size, (Go.Lib.bytesCells w en sx).size + 1) (Nat.le_refl _) (fun i y hy => by
     rw [nth_getElem?, bytesOf, List.getElem?_map, ← ex', Array.getElem?_toList] at hy
     cases hq : sx.data[i]? with
     | none => rw [hq] at hy; cases hy
     | some b =>
       rw [hq] at hy
       cases hy
       have hi : i < sx.data.size := (Array.getElem?_eq_some_iff.1 hq).1
       unfold Go.Lib.bytesCells
       rw [Array.getElem?_append, if_pos (by simpa using hi), Array.getElem?_map, hq]; rfl) (by rw [hlen, hsz]; exact grownCap_ge w sx.size 0 en)
    rw [hlen, hsz] at g2
    rw [hsz] at g1 hrun
    refine s7 hN hk h g1 ?_ g2
    simp only [execOp, ho, Sem.run_bind]
    rw [show a.eval x = .string sx from ex, hrun]
    simp
   ·
    rename_i en id
    split at h
    case h_2 => cases h
    rename_i l hl
    replace h := g8 h
    obtain ⟨hc, h⟩ := h
    simp only [and_eq_true, Bool.not_eq_true'] at hc
    obtain ⟨hbt, hsame, hpos, hh⟩ := hc
    have htd' := Nat.eq_of_beq_eq_true hsame
    subst htd'
    have he := a6i hcx hbt
    obtain ⟨_, hd2, _⟩ := hcx.tab t _ hd
    rw [Nat.blt_eq] at hpos
    obtain ⟨loc, hb, _, hs⟩ := hv
    have hsl := hs _ _ (by rw [hl]; rfl)
    rcases hr.hp.ob id _ hl with ⟨q1, q2⟩ | ⟨b, ob, q1, hnΦ, hfz, hrow⟩
    · subst q2; exact absurd hpos (Nat.lt_irrefl _)
    rw [hb] at q1; cases q1
    obtain ⟨o', cap, e1, e2, e3, e4, e5, e6⟩ := hsl
    obtain ⟨c, tt, f, hblk⟩ : ∃ c tt f, w.heap[b]? = some (.cells c tt f) := by
     obtain ⟨us, hu1, hu2⟩ := hrow 0 (l[0]'hpos) (by rw [nth_getElem?]; simp [hpos])
     cases hu2
     have := hu1.1
     unfold World.cell? at this
     cases hq : w.heap[b]? with
     | none => rw [hq] at this; cases this
     | some oo =>
       cases oo with
       | cells c tt f => exact ⟨c, tt, f, rfl⟩
       | _ => rw [hq] at this; cases this
    have hw := Wrote.mark w b c.size ⟨c, tt, f, hblk, rfl⟩ 0
    have m := hw.mono hr.hp hnΦ (id := id) (ob' := .arr (.int .u8) l) hl rfl
    have hr' := hr.write (ob' := .arr (.int .u8) l) rfl rfl hl rfl rfl hb hh hw rfl hnΦ (.inr ⟨b, ob, hb, hnΦ, hw.fz hfz, fun j xx hj => by
     obtain ⟨us, hu1, hu2⟩ := hrow j xx hj
     refine ⟨us, E4 _ _ _ fun i v hv => ?_, s6 m.frz m.sub _ _ _ hu2⟩
     rw [hw.cell, if_neg (by simp)]
     exact m7 _ _ _ hu1 i v hv⟩)
    refine s7 hN hk h hr' (v := a.eval x) ?_ ⟨some (b, ob), hb, ⟨_, _, _, e1⟩, fun sz n hrw => ?_⟩
    · have hmark : (markStringish ⟨b, o', none⟩).run P w = .ok () (w.freeze ⟨b, c.size, none⟩ 1) := by
       simp [markStringish, World.shape?, hblk]
      have hue := Option.some.inj (hu.symm.trans hd2)
      subst hue
      simp only [execOp, ho, Sem.run_bind]
      rw [e1]
      simp [convert, run_underlying hu, run_underlying he, hmark]
    · simp only [St.put, j5, if_true, rowOf] at hrw
      cases hrw
      exact ⟨o', cap, e1, e2, e3, e4, by rw [hw.bs]; exact e5, fun hh => by rw [hw.bs]; exact e6 hh⟩
   ·
    rename_i z v
    split at h
    case h_2 => cases h
    rename_i en e2
    obtain ⟨hbt, h⟩ := g8 h
    split at h
    case h_2 => cases h
    rename_i l hsrc
    have he := a6i hcx hbt
    obtain ⟨_, hu2, _⟩ := hcx.tab t _ htd
    obtain ⟨_, dd, hdd, _, _, hi, _⟩ := hcx.tab d _ hd
    have := hi _ rfl; subst this
    obtain ⟨aa, cap, ev, hsrc'⟩ := a9i hr hv hsrc
    refine s7 hN hk h hr (v := .string (strOfNums l)) ?_ ⟨strOfNums l, rfl, strOfNums_data l⟩
    have hrun : (convert t d (.slice aa l.length cap)).run P w = .ok (.string (strOfNums l)) w := by
     rcases hsrc' with h0 | ⟨blk, oo, news, f1, f2, f3⟩
     · subst h0
       rw [run_convert_bytes_string w t d en aa _ cap hu2 he hdd]
       cases aa with
       | none => simp [Conv.bytesToString]; rfl
       | some q =>
         rw [show ([] : List Int).length = 0 from rfl, run_bytesToString w q 0 cap [] (by simp [loadCells, loadCellsFrom])]
         rfl
     · subst f1
       refine run_convert_bytes_arg w t en hu2 he blk oo l.length cap l rfl (fun i hi => ?_) d hdd
       have h3 := f3.2.2 i l[i] (by rw [nth_getElem?]; simp [hi])
       have h4 : news[i]? = some (.int .u8 l[i]) := by
        have := congrArg (fun q => q[0]?) (show (news.drop (i * 1)).take 1 = [.int .u8 l[i]] from h3)
        simpa using this
       rw [m7 _ _ _ f2 i _ h4]
       simp [List.getD_eq_getElem?_getD, List.getElem?_eq_getElem hi]
    simp only [execOp, ho, Sem.run_bind]
    rw [ev, hrun]
    simp
   · cases h
 · cases h
end
section
variable {P : Program} {R : Type} {w0 : World} {Φ0 own0 : Nat → Prop} {N : Frm} {w : World} {Φ : Nat → Prop} {β : Loc} {s : St} {a : Act} {hp : List (Nat × SObj)}
variable {cx : Cx} {o : Oper} {next : Act → World → Prop} {Q : Exit → Act → World → Prop} {k : St → Option R} {r : R}
theorem b0f (hcx : CxOk P cx) (hr : Rel w0 Φ0 own0 N w Φ β s a) (hN : ∀ d, o.dst = some d → N.ok d) (hk : ∀ s' a' w' Φ' β', Rel w0 Φ0 own0 N w' Φ' β' s' a' → k s' = some r → next a' w')
  {t : TypeId} (ho : o.op = .makeMap t none) (h : j0 cx o s k = some r) : o.wp P a w next Q := by
 simp only [j0, ho] at h
 split at h
 case h_2 => cases h
 rename_i kt vt agg htd
 by_cases hmk : ∃ e, cx.mkr t = true ∧ vt = .list e ∧ agg = false
 · obtain ⟨e, hm1, rfl, rfl⟩ := hmk
   rw [hm1] at h
   refine s7 (v := .map (some w.heap.size)) hN hk h (hr.new (.map #[] 0) (.mrows kt e [] none) 0 ?_ ?_) (by simp [execOp, ho, Instr.makeMap]) ?_
   · rintro c ⟨hs, g, ⟨_, b, es, cl, hb, hc, e1⟩, i, v, hv, _⟩
     simp only [Loc.at, if_true, Option.some.injEq, Prod.mk.injEq] at hb
     obtain ⟨rfl, _⟩ := hb
     rw [(MapKept.heap_alloc w _).1] at hc
     cases hc
     subst e1
     simp at hv
   · exact ⟨w.heap.size, #[], 0, by simp [Loc.at], fun h => absurd (hr.hp.flt _ h) (by omega), (MapKept.heap_alloc w _).1, rfl, ⟨fun e he => by simp at he, by simp⟩, rfl, fun i v r h1 => by simp at h1, fun i j v v' c h1 => by simp at h1⟩
   · exact ⟨w.heap.size, by simp [Loc.at], rfl⟩
 have hmade : b7x (cx.mkr t) kt vt agg = .map kt vt agg [] := by
  cases hmr : cx.mkr t with
  | false => unfold b7x; rfl
  | true => cases vt <;> first | rfl | (cases agg <;> first | rfl | exact absurd ⟨_, hmr, rfl, rfl⟩ hmk)
 rw [hmade] at h
 refine s7 (v := .map (some w.heap.size)) hN hk h (hr.new (.map #[] 0) (.map kt vt agg []) 0 (fun _ => o3 rfl) ?_) (by simp [execOp, ho, Instr.makeMap]) ?_
 · exact ⟨w.heap.size, #[], 0, by simp [Loc.at], fun h => absurd (hr.hp.flt _ h) (by omega), (MapKept.heap_alloc w _).1, rfl, ⟨fun e he => by simp at he, by simp⟩⟩
 · exact ⟨w.heap.size, by simp [Loc.at], rfl⟩
theorem a9T (hcx : CxOk P cx) (hr : Rel w0 Φ0 own0 N w Φ β s a) {S : World → Prop} {K : Nat → Prop} (hS : ∀ w', S w' → ∀ b, K b → w'.heap[b]? = w.heap[b]?)
  {t : TypeId} {x i : Operand} {ok : Bool} (ho : o.op = .lookup t x i ok) (hK : ∀ id, l7 s.env x = some (.one (.mp id)) → ∀ b p, β id = some (some (b, p)) → (∃ c v g l, look s.heap id = some (.map c v g l)) → K b)
  (hnt : ∀ id kt e l, l7 s.env x = some (.one (.mp id)) → look s.heap id = some (.mrows kt e l none) → s.held id = true) (h : j0 cx o s k = some r) : B5 P R S w Φ β s a o k r := by
 simp only [j0, ho] at h
 split at h
 · cases h
 · cases h
end
section
variable {P : Program} {R : Type} {w0 : World} {Φ0 own0 : Nat → Prop} {N : Frm} {w : World} {Φ : Nat → Prop} {β : Loc} {s : St} {a : Act} {hp : List (Nat × SObj)}
variable {cx : Cx} {o : Oper} {next : Act → World → Prop} {Q : Exit → Act → World → Prop} {k : St → Option R} {r : R}
theorem b8R (hcx : CxOk P cx) (hr : Rel w0 Φ0 own0 N w Φ β s a) (hN : ∀ d, o.dst = some d → N.ok d) (hk : ∀ s' a' w' Φ' β', Rel w0 Φ0 own0 N w' Φ' β' s' a' → k s' = some r → next a' w')
  {c : Call} (ho : o.op = .call c) (hc : c.callee = .builtin .len) (h : j0 cx o s k = some r) : o.wp P a w next Q := by
 by_cases hnm : ∀ x id, c.args.toList = [x] → l7 s.env x ≠ some (.one (.mp id))
 · exact (a9a hcx hr ho hc hnm h).wp hr trivial hN hk
 · have hnm2 : ∃ x id, c.args.toList = [x] ∧ l7 s.env x = some (.one (.mp id)) := by
    refine Classical.byContradiction fun hx => hnm fun x id h1 h2 => hx ⟨x, id, h1, h2⟩
   obtain ⟨x0, id, hx0, he⟩ := hnm2
   simp only [j0, ho, hc] at h
   split at h
   case h_2 => cases h
   rename_i x t ts hargs hty
   rw [hx0] at hargs
   cases hargs
   rw [he] at h
   split at h
   case h_2 => cases h
   rename_i td v htd hv
   cases hv
   have hargs' : c.args = #[x0] := by rw [← Array.toList_inj]; simpa using hx0
   have ht : c.argTypes[0]? = some t := by rw [← Array.getElem?_toList, hty]; rfl
   have h1 := hr.eval he
   obtain ⟨b', hb', hxv⟩ := h1
   simp only [b2t] at h
   have : lenOf td s (.mp id) = none := by
    cases td with
    | leaf z => cases z <;> rfl
    | _ => rfl
   rw [this] at h
   cases h
theorem b1H (hcx : CxOk P cx) (hr : Rel w0 Φ0 own0 N w Φ β s a) (hN : ∀ d, o.dst = some d → N.ok d) (hk : ∀ s' a' w' Φ' β', Rel w0 Φ0 own0 N w' Φ' β' s' a' → k s' = some r → next a' w')
  {c : Call} (ho : o.op = .call c) (hc : c.callee = .builtin .delete) (h : j0 cx o s k = some r) : o.wp P a w next Q := by
 simp only [j0, ho, hc] at h
 split at h
 case h_2 => cases h
 split at h
 · cases h
 · cases h
end
section
variable {P : Program} {R : Type} {w0 : World} {Φ0 own0 : Nat → Prop} {N : Frm} {w : World} {Φ : Nat → Prop} {β : Loc} {s : St} {a : Act} {hp : List (Nat × SObj)}
variable {cx : Cx} {o : Oper} {next : Act → World → Prop} {Q : Exit → Act → World → Prop} {k : St → Option R} {r : R}
theorem b5v (hcx : CxOk P cx) (hr : Rel w0 Φ0 own0 N w Φ β s a) (hN : ∀ d, o.dst = some d → N.ok d) (hk : ∀ s' a' w' Φ' β', Rel w0 Φ0 own0 N w' Φ' β' s' a' → k s' = some r → next a' w')
  {t : TypeId} {x : Operand} (ho : o.op = .load t x) (hg : GvR cx.gv w Φ) (h : j0 cx o s k = some r) : o.wp P a w next Q := by
 simp only [j0, ho] at h
 split at h
 · rename_i u hu
   split at h
   case h_2 => cases h
   rename_i td htd
   exact a7B hcx hr hN hk ho htd (b4P hg hu) h
 split at h
 case h_2 => cases h
 rename_i td u htd hx
 exact a7B hcx hr hN hk ho htd (hr.eval hx) h
theorem b2V (hcx : CxOk P cx) (hr : Rel w0 Φ0 own0 N w Φ β s a) (hN : ∀ d, o.dst = some d → N.ok d) (hk : ∀ s' a' w' Φ' β', Rel w0 Φ0 own0 N w' Φ' β' s' a' → k s' = some r → next a' w')
  {t : TypeId} {x y : Operand} (ho : o.op = .store t x y) (h : j0 cx o s k = some r) : o.wp P a w next Q := by
 simp only [j0, ho] at h
 split at h
 case h_2 => cases h
 rename_i td v u htd hx hy
 exact b1L hcx hr hN hk ho htd hx hy h
theorem b1J (hcx : CxOk P cx) (hr : Rel w0 Φ0 own0 N w Φ β s a) (hN : ∀ d, o.dst = some d → N.ok d) (hk : ∀ s' a' w' Φ' β', Rel w0 Φ0 own0 N w' Φ' β' s' a' → k s' = some r → next a' w')
  {t : TypeId} {x i : Operand} {ok : Bool} (ho : o.op = .lookup t x i ok) (h : j0 cx o s k = some r) : o.wp P a w next Q := by
 simp only [j0, ho] at h
 split at h
 · cases h
 · cases h
theorem a1x (hcx : CxOk P cx) (hr : Rel w0 Φ0 own0 N w Φ β s a) (hN : ∀ d, o.dst = some d → N.ok d) (hk : ∀ s' a' w' Φ' β', Rel w0 Φ0 own0 N w' Φ' β' s' a' → k s' = some r → next a' w')
  {t : TypeId} {x i y : Operand} (ho : o.op = .mapUpdate t x i y ∨ o.op = .insert t x i y) (h : j0 cx o s k = some r) : o.wp P a w next Q := by
 rcases ho with ho | ho
 · simp only [j0, ho] at h
   split at h
   · cases h
   · cases h
 · simp only [j0, ho] at h
   split at h
   · cases h
   · cases h
theorem a5A (hcx : CxOk P cx) (hr : Rel w0 Φ0 own0 N w Φ β s a) {t : TypeId} {x : Operand} (ho : o.op = .makeInterface t x) (h : j0 cx o s k = some r) : B5 P R (fun _ => True) w Φ β s a o k r := by
 simp only [j0, ho] at h
 split at h
 · rename_i j z j' n htd hx
   have hv := hr.eval hx
   obtain ⟨_, d, hd, _, hi, _⟩ := hcx.tab t _ htd
   have hd' := hi _ _ rfl
   subst hd'
   refine m9 h (v := .iface t (a.eval x)) (fun w _ => by simp [execOp, ho, Instr.makeInterface, run_underlying hd]) ?_
   have hv' : a.eval x = .int j' n := hv
   rw [hv']; rfl
 · rename_i id off htd hx
   obtain ⟨b, hb, hv⟩ := hr.eval hx
   obtain ⟨_, d, hd, _, _, _, _, hp⟩ := hcx.tab t _ htd
   refine m9 h (v := .iface t (a.eval x)) (fun w _ => ?_) ⟨b, hb, by rw [hv]⟩
   have := hp rfl
   simp only [execOp, ho, Instr.makeInterface, Sem.run_bind, run_underlying hd, Result.andThen_ok]
   cases d <;> first | rfl | exact absurd rfl (this _)
 · cases h
theorem a9S (hcx : CxOk P cx) (hr : Rel w0 Φ0 own0 N w Φ β s a) {t t2 : TypeId} {x : Operand} (ho : o.op = .typeAssert x t2 t false) (h : j0 cx o s k = some r) : B5 P R (fun _ => True) w Φ β s a o k r := by
 simp only [j0, ho] at h
 split at h
 · rename_i j z t' j' n htd hx
   have hv : a.eval x = .iface t' (.int j' n) := hr.eval hx
   obtain ⟨_, d, hd, _, hi, _⟩ := hcx.tab t _ htd
   have hd' := hi _ _ rfl
   subst hd'
   obtain ⟨hc, h2⟩ := g8 h
   have ht := Nat.eq_of_beq_eq_true hc
   subst ht
   exact m9 h2 (v := .int j' n) (fun w _ => by simp [execOp, ho, Instr.typeAssert, run_underlying hd, hv]) rfl
 · cases h
end
section
variable {w w' : World} {Φ Φ' : Nat → Prop} {β γ : Loc} {hp hp' : List (Nat × SObj)} {ρ : Rho}
theorem a7I : ∀ {ts : List CT} {ds : List Dyn} {d : (L9 ts).denote}, toD ts ds = some d → m4 ts d = ds
 | [], [], d, h => rfl
 | [], _ :: _, d, h => by simp [toD] at h
 | [a], [], d, h => by simp [toD] at h
 | [a], [x], d, h => by
   obtain ⟨t, x⟩ := x
   simp only [toD] at h
   split at h
   · rename_i e; subst e; cases h; rfl
   · cases h
 | [a], _ :: _ :: _, d, h => by simp [toD] at h
 | a :: b :: r, [], d, h => by simp [toD] at h
 | a :: b :: r, x :: ds, d, h => by
   obtain ⟨t, x⟩ := x
   simp only [toD] at h
   split at h
   case isFalse => cases h
   rename_i e
   subst e
   split at h
   case h_2 => cases h
   rename_i y hy
   cases h
   show _ :: m4 (b :: r) y = _
   rw [a7I hy]
theorem a3j (hob : ∀ id e l, look hp id = some (.frz e l) → ObR w Φ β hp id (.frz e l)) {t : CT} {l : Leaf} {v : Value} {x : t.denote} (hv : LfR w Φ β hp l v) (h : b2j hp t l = some x) : VC w Φ t x [v] := by
 unfold b2j at h
 split at h
 · rename_i k k' y
   split at h
   · rename_i hk; cases h; subst hk; rw [show v = _ from hv]; rfl
   · cases h
 · cases h; rw [show v = _ from hv]; rfl
 · cases h; obtain ⟨sx, e1, e2⟩ := hv; exact ⟨sx, by rw [e1], e2⟩
 · rename_i e e' l'
   split at h
   · rename_i he; subst he; cases h; exact hv
   · cases h
 · rename_i e e' l'
   split at h
   · rename_i he; subst he; cases h; exact hv.1
   · cases h
 · cases h; exact ⟨none, 0, by rw [show v = _ from hv]; rfl, Nat.le_refl _, .inl rfl⟩
 · rename_i e id rr
   obtain ⟨loc, hloc, _, hs⟩ := hv
   split at h
   · rename_i e' l' hl
     split at h
     case isFalse => cases h
     rename_i he; subst he; cases h
     refine b2L (hs _ _ (by rw [hl]; rfl)) fun b o hb => ?_
     rcases hob id _ _ hl with ⟨h1, _⟩ | ⟨b', o', h1, h2, h4⟩
     · rw [hloc, hb] at h1; cases h1
     · rw [hloc, hb] at h1; cases h1; exact ⟨h2, h4⟩
   · cases h
 · cases h
theorem b3n (hob : ∀ id e l, look hp id = some (.frz e l) → ObR w Φ β hp id (.frz e l)) : ∀ {t : CT} {ls : List Leaf} {vs : List Value} {x : t.denote}, p8 w Φ β hp ls vs → L5 hp t ls = some x → VC w Φ t x vs
 | .prod p q, [], vs, x, hv, h => by simp [L5] at h
 | .prod p q, l :: ls, vs, x, ⟨v, vs', e, h1, h2⟩, h => by
   subst e
   simp only [L5] at h
   split at h
   case h_2 => cases h
   rename_i y hy
   split at h
   case h_2 => cases h
   rename_i z hz
   cases h
   exact ⟨v, vs', rfl, a3j hob h1 hy, b3n hob h2 hz⟩
 | .unit, ls, vs, x, hv, h => by
   cases ls with
   | nil => exact hv
   | cons l ls => simp [L5] at h
 | .int k, ls, vs, x, hv, h => by
   match ls, hv with
   | [], _ => simp [L5] at h
   | [l], ⟨v, vs', e, h1, h2⟩ => cases h2; subst e; exact a3j hob h1 h
   | _ :: _ :: _, _ => simp [L5] at h
 | .bool, ls, vs, x, hv, h => by
   match ls, hv with
   | [], _ => simp [L5] at h
   | [l], ⟨v, vs', e, h1, h2⟩ => cases h2; subst e; exact a3j hob h1 h
   | _ :: _ :: _, _ => simp [L5] at h
 | .str, ls, vs, x, hv, h => by
   match ls, hv with
   | [], _ => simp [L5] at h
   | [l], ⟨v, vs', e, h1, h2⟩ => cases h2; subst e; exact a3j hob h1 h
   | _ :: _ :: _, _ => simp [L5] at h
 | .list e, ls, vs, x, hv, h => by
   match ls, hv with
   | [], _ => simp [L5] at h
   | [l], ⟨v, vs', e, h1, h2⟩ => cases h2; subst e; exact a3j hob h1 h
   | _ :: _ :: _, _ => simp [L5] at h
 | .sum _ _, ls, vs, x, hv, h => by simp [L5] at h
theorem b0L : ∀ {t : CT} {ls : List Leaf} {x : t.denote}, L5 hp t ls = some x → ls.length = t.size ∧ (v7 t x).length = t.size
 | .prod p q, [], x, h => by simp [L5] at h
 | .prod p q, l :: ls, x, h => by
   simp only [L5] at h
   split at h
   case h_2 => cases h
   split at h
   case h_2 => cases h
   rename_i z hz
   cases h
   obtain ⟨h1, h2⟩ := b0L hz
   simp [v7, CT.size, h1, h2]; omega
 | .unit, ls, x, h => by
   cases ls with
   | nil => simp [v7, CT.size]
   | cons l ls => simp [L5] at h
 | .int k, ls, x, h => by
   match ls with
   | [] => simp [L5] at h
   | [l] => simp [v7, CT.size]
   | _ :: _ :: _ => simp [L5] at h
 | .bool, ls, x, h => by
   match ls with
   | [] => simp [L5] at h
   | [l] => simp [v7, CT.size]
   | _ :: _ :: _ => simp [L5] at h
 | .str, ls, x, h => by
   match ls with
   | [] => simp [L5] at h
   | [l] => simp [v7, CT.size]
   | _ :: _ :: _ => simp [L5] at h
 | .list e, ls, x, h => by
   match ls with
   | [] => simp [L5] at h
   | [l] => simp [v7, CT.size]
   | _ :: _ :: _ => simp [L5] at h
 | .sum _ _, ls, x, h => by simp [L5] at h
theorem E8 {k id : Nat} (h : a9C ρ k id = true) : ρ.at k = some id := by
 unfold a9C at h
 split at h
 · rename_i j hj; rw [hj, Nat.eq_of_beq_eq_true h]
 · cases h
structure Corr (ρ : Rho) (β γ : Loc) (hp hp' : List (Nat × SObj)) : Prop where
 loc : ∀ k id, ρ.at k = some id → γ k = β id
 row : ∀ k id, ρ.at k = some id → ∀ r, rowOf (look hp' k) = some r → rowOf (look hp id) = some r
theorem Z6 (c : Corr ρ β γ hp hp') : ∀ {xs ys : List (Option Nat)} {vs : List Value}, a0r ρ xs ys = true → a3X β ys vs → a3X γ xs vs
 | [], [], _, _, h => h
 | [], _ :: _, _, h, _ => by simp [a0r] at h
 | none :: _, [], _, h, _ => by simp [a0r] at h
 | some _ :: _, [], _, h, _ => by simp [a0r] at h
 | none :: r, none :: s, vs, h, ⟨v, vs', e, h1, h2⟩ => ⟨v, vs', e, h1, Z6 c (by simpa [a0r] using h) h2⟩
 | some k :: r, some id :: s, vs, h, ⟨v, vs', e, ⟨b, h1, h3⟩, h2⟩ => by
   simp only [a0r, and_eq_true] at h
   exact ⟨v, vs', e, ⟨b, by rw [c.loc k id (E8 h.1)]; exact h1, h3⟩, Z6 c h.2 h2⟩
 | none :: _, some _ :: _, _, h, _ => by simp [a0r] at h
 | some _ :: _, none :: _, _, h, _ => by simp [a0r] at h
theorem b2k (c : Corr ρ β γ hp hp') {lt : LT} {l : Leaf} {u : Value} {ds : List Dyn} (hv : LfR w Φ β hp l u) (h : a6u ρ lt l = some ds) (rest : List Dyn) :
  ∃ l', P3 lt (ds ++ rest) = ([l'], rest) ∧ LfR w Φ γ hp' l' u := by
 unfold a6u at h
 split at h
 · rename_i k off id off'
   obtain ⟨hb, h⟩ := g8 h
   cases h
   simp only [and_eq_true] at hb
   have e2 := Nat.eq_of_beq_eq_true hb.2
   subst e2
   obtain ⟨b, h1, h2⟩ := hv
   exact ⟨_, rfl, b, by rw [c.loc k id (E8 hb.1)]; exact h1, h2⟩
 · rename_i k off id i off'
   obtain ⟨hb, h⟩ := g8 h
   cases h
   simp only [and_eq_true] at hb
   have e2 := Nat.eq_of_beq_eq_true hb.2
   subst e2
   obtain ⟨loc, h1, h2, h3⟩ := hv
   refine ⟨.eptr k (i : Int).toNat off, rfl, loc, by rw [c.loc k id (E8 hb.1)]; exact h1, h2, fun sz n hr => ?_⟩
   rw [Int.toNat_natCast]
   exact h3 sz n (c.row k id (E8 hb.1) _ hr)
 · rename_i k id
   obtain ⟨hb, h⟩ := g8 h
   cases h
   obtain ⟨loc, h1, h2, h3⟩ := hv
   exact ⟨_, rfl, loc, by rw [c.loc k id (E8 hb)]; exact h1, h2, fun sz n hr => h3 sz n (c.row k id (E8 hb) _ hr)⟩
 · rename_i k off n id r
   obtain ⟨hb, h⟩ := g8 h
   cases h
   simp only [and_eq_true] at hb
   have e1 := Nat.eq_of_beq_eq_true hb.2.1
   have e2 := Nat.eq_of_beq_eq_true hb.2.2
   obtain ⟨r1, r2⟩ := r
   subst e1; subst e2
   obtain ⟨loc, h1, h2, h3⟩ := hv
   exact ⟨_, rfl, loc, by rw [c.loc k id (E8 hb.1)]; exact h1, h2, fun sz n hr => h3 sz n (c.row k id (E8 hb.1) _ hr)⟩
 · cases h; exact ⟨_, rfl, hv⟩
 · rename_i f a b f' a' b'
   obtain ⟨hb, h⟩ := g8 h
   cases h
   simp only [and_eq_true] at hb
   have e2 := Nat.eq_of_beq_eq_true hb.1
   subst e2
   obtain ⟨us, vs, h1, h2, h3⟩ := hv
   exact ⟨_, rfl, us, vs, h1, Z6 c hb.2.1 h2, Z6 c hb.2.2 h3⟩
 · rename_i t k off t' id off'
   obtain ⟨hb, h⟩ := g8 h
   cases h
   simp only [and_eq_true] at hb
   have e1 := Nat.eq_of_beq_eq_true hb.1
   have e2 := Nat.eq_of_beq_eq_true hb.2.2
   subst e1; subst e2
   obtain ⟨b, h1, h2⟩ := hv
   exact ⟨_, rfl, b, by rw [c.loc k id (E8 hb.2.1)]; exact h1, h2⟩
 · rename_i t j t' j' x
   split at h
   case isFalse => cases h
   obtain ⟨hb, h⟩ := g8 h
   cases h
   have e1 := Nat.eq_of_beq_eq_true hb
   subst e1
   exact ⟨_, rfl, hv⟩
 · rename_i e e' l
   split at h
   case isFalse => cases h
   cases h
   exact ⟨_, rfl, hv⟩
 · rename_i k id
   obtain ⟨hb, h⟩ := g8 h
   cases h
   obtain ⟨b, h1, h2⟩ := hv
   exact ⟨_, rfl, b, by rw [c.loc k id (E8 hb)]; exact h1, h2⟩
 · cases h; exact ⟨_, rfl, hv⟩
 · cases h; exact ⟨_, rfl, hv⟩
 · cases h; exact ⟨_, rfl, hv⟩
 · cases h; exact ⟨_, rfl, hv⟩
 · cases h; exact ⟨_, rfl, trivial⟩
 · cases h
theorem b0K {lt : LT} {l : Leaf} {ds : List Dyn} (h : a6u ρ lt l = some ds) (rest : List Dyn) : ∃ l', P3 lt (ds ++ rest) = ([l'], rest) := by
 unfold a6u at h
 split at h
 all_goals first
  | (cases h; done)
  | (cases h; exact ⟨_, rfl⟩)
  | (split at h
     · obtain ⟨hb, h⟩ := g8 h; cases h; exact ⟨_, rfl⟩
     · cases h)
  | (split at h
     · cases h; exact ⟨_, rfl⟩
     · cases h)
  | (obtain ⟨hb, h⟩ := g8 h; cases h; exact ⟨_, rfl⟩)
theorem b0J {lt : LT} {l : Leaf} {ds : List Dyn} (h : a6u ρ lt l = some ds) (rest : List Dyn) : (P3 lt (ds ++ rest)).1 = (P3 lt ds).1 := by
 unfold a6u at h
 split at h
 all_goals first
  | (cases h; done)
  | (cases h; rfl)
  | (split at h
     · obtain ⟨hb, h⟩ := g8 h; cases h; rfl
     · cases h)
  | (split at h
     · cases h; rfl
     · cases h)
  | (obtain ⟨hb, h⟩ := g8 h; cases h; rfl)
theorem a5T : ∀ {l m : List Leaf} {u v : List Value}, p8 w Φ β hp l u → p8 w Φ β hp m v → p8 w Φ β hp (l ++ m) (u ++ v)
 | [], m, u, v, h, k => by cases h; exact k
 | x :: l, m, u, v, ⟨a, us, e, h1, h2⟩, k => by subst e; exact ⟨a, us ++ v, rfl, h1, a5T h2 k⟩
theorem a1g {l : LT} {t : CT} (h : l.plain = some t) : l = .pl t := by
 cases l <;> simp [LT.plain] at h
 subst h; rfl
theorem G8 : ∀ {lts : List LT} {ls : List Leaf} {ds : List Dyn}, L6 ρ hp lts ls = some ds → ∀ rest, (o9 lts (ds ++ rest)).2 = rest ∧ (o9 lts (ds ++ rest)).1 = (o9 lts ds).1 ∧ (o9 lts ds).1.length = ls.length
 | [], [], ds, h, rest => by simp [L6] at h; subst h; simp [o9]
 | [], _ :: _, ds, h, rest => by simp [L6] at h
 | lt :: r, ls, ds, h, rest => by
   simp only [L6] at h
   split at h
   · rename_i t ht
     have := a1g ht
     subst this
     split at h
     case h_2 => cases h
     rename_i x ds' hx hds
     cases h
     obtain ⟨h1, h2, h3⟩ := G8 hds rest
     obtain ⟨h4, h5⟩ := b0L hx
     refine ⟨by simp [o9, P3, h1], by simp [o9, P3, h2], ?_⟩
     simp only [o9, P3, List.length_append, h3, h5, List.length_drop]
     simp only [List.length_take] at h4
     omega
   · split at h
     · cases h
     · rename_i v vs
       split at h
       case h_2 => cases h
       rename_i d ds' hd hds
       cases h
       obtain ⟨l', e1⟩ := b0K hd (ds' ++ rest)
       obtain ⟨l2, e2⟩ := b0K hd ds'
       obtain ⟨h1, h2, h3⟩ := G8 hds rest
       have e3 : l' = l2 := by
        have a1 := b0J hd (ds' ++ rest)
        have a2 := b0J hd ds'
        rw [e1] at a1; rw [e2] at a2
        simpa using a1.trans a2.symm
       subst e3
       simp only [o9, List.append_assoc, e1, e2, h1, h2, List.length_append, List.length_cons, List.length_nil, h3]
       refine ⟨trivial, trivial, by omega⟩
theorem G9 (hob : ∀ id e l, look hp id = some (.frz e l) → ObR w Φ β hp id (.frz e l)) (c : Corr ρ β γ hp hp') : ∀ {lts : List LT} {ls : List Leaf} {us : List Value} {ds : List Dyn}, p8 w Φ β hp ls us → L6 ρ hp lts ls = some ds →
  p8 w Φ γ hp' (o9 lts ds).1 us
 | [], [], us, ds, hv, h => by simp [L6] at h; subst h; exact hv
 | [], _ :: _, us, ds, hv, h => by simp [L6] at h
 | lt :: r, ls, us, ds, hv, h => by
   simp only [L6] at h
   split at h
   · rename_i t ht
     have := a1g ht
     subst this
     split at h
     case h_2 => cases h
     rename_i x ds' hx hds
     cases h
     have h1 := b3n hob (J2 t.size hv) hx
     have h2 := G9 hob c (J1 t.size hv) hds
     have := a5T (B4 (β := γ) (hp := hp') t x _ h1) h2
     simpa [o9, P3] using this
   · split at h
     · cases h
     · rename_i v vs
       split at h
       case h_2 => cases h
       rename_i d ds' hd hds
       cases h
       obtain ⟨u, us', e, g1, g2⟩ := hv
       subst e
       obtain ⟨l', e1, e2⟩ := b2k c g1 hd ds'
       simp only [o9, e1, List.cons_append, List.nil_append]
       exact ⟨u, us', rfl, e2, G9 hob c g2 hds⟩
def a9q (ρ : Rho) (hp : List (Nat × SObj)) (ob o' : SObj) : Prop :=
 (∃ cs lts d, ob = .box cs ∧ L6 ρ hp lts cs = some d ∧ o' = .box (o9 lts d).1) ∨ (∃ cs lts d, ob = .cells cs ∧ L6 ρ hp lts cs = some d ∧ o' = .cells (o9 lts d).1) ∨
   (∃ e l, ob = .arr e l ∧ o' = .arr e l) ∨ (∃ k v a l, ob = .map k v a l ∧ o' = .map k v a l) ∨ (ob.B2 = true ∧ o' = ob) ∨
   ∃ e pre cs post lts d, ob = .zip e pre cs post ∧ L6 ρ hp lts cs = some d ∧ o' = .zip e pre (o9 lts d).1 post
theorem a9q.row {ob o' : SObj} (h : a9q ρ hp ob o') : rowOf (some o') = rowOf (some ob) := by
 rcases h with ⟨cs, lts, d, rfl, h2, rfl⟩ | ⟨cs, lts, d, rfl, h2, rfl⟩ | ⟨e, l, rfl, rfl⟩ | ⟨k, v, a, l, rfl, rfl⟩ | ⟨_, rfl⟩ | ⟨e, pre, cs, post, lts, d, rfl, _, rfl⟩
 · rfl
 · simp [rowOf, (G8 h2 []).2.2]
 · rfl
 · rfl
 · rfl
 · rfl
theorem a9q.owned {ob o' : SObj} (h : a9q ρ hp ob o') : o'.owned = true ∧ ob.owned = true := by
 rcases h with ⟨cs, lts, d, rfl, h2, rfl⟩ | ⟨cs, lts, d, rfl, h2, rfl⟩ | ⟨e, l, rfl, rfl⟩ | ⟨k, v, a, l, rfl, rfl⟩ | ⟨h1, rfl⟩ | ⟨e, pre, cs, post, lts, d, rfl, _, rfl⟩
 · exact ⟨rfl, rfl⟩
 · exact ⟨rfl, rfl⟩
 · exact ⟨rfl, rfl⟩
 · exact ⟨rfl, rfl⟩
 · cases o' <;> first | exact ⟨rfl, rfl⟩ | cases h1
 · exact ⟨rfl, rfl⟩
theorem a9q.rows {ob o' : SObj} (h : a9q ρ hp ob o') (hr : o'.B2 = true) : o' = ob := by
 rcases h with ⟨cs, lts, d, rfl, h2, rfl⟩ | ⟨cs, lts, d, rfl, h2, rfl⟩ | ⟨e, l, rfl, rfl⟩ | ⟨k, v, a, l, rfl, rfl⟩ | ⟨h1, rfl⟩ | ⟨e, pre, cs, post, lts, d, rfl, _, rfl⟩ <;> first | rfl | cases hr
theorem a6v {k : Nat} {o : ObT} {ds : List Dyn} (h : b6F ρ hp k o = some ds) (rest : List Dyn) : (S2 o (ds ++ rest)).2 = rest ∧ (S2 o (ds ++ rest)).1 = (S2 o ds).1 ∧
  (o = .gone ∧ (S2 o ds).1 = .dead ∨ ∃ id ob, ρ.at k = some id ∧ look hp id = some ob ∧ a9q ρ hp ob (S2 o ds).1) := by
 unfold b6F at h
 split at h
 · cases h; exact ⟨rfl, rfl, .inl ⟨rfl, rfl⟩⟩
 · split at h
   case h_2 => cases h
   rename_i id hid
   split at h
   · rename_i ls cs hl hne
     obtain ⟨h1, h2, h3⟩ := G8 h rest
     exact ⟨h1, by simp only [S2, h2], .inr ⟨id, _, hid, hl, .inl ⟨cs, ls, ds, rfl, h, rfl⟩⟩⟩
   · rename_i ls cs hl hne
     obtain ⟨h1, h2, h3⟩ := G8 h rest
     exact ⟨h1, by simp only [S2, h2], .inr ⟨id, _, hid, hl, .inr (.inl ⟨cs, ls, ds, rfl, h, rfl⟩)⟩⟩
   · rename_i e e' l hl hne
     split at h
     case isFalse => cases h
     cases h
     exact ⟨rfl, rfl, .inr ⟨id, _, hid, hl, .inr (.inr (.inl ⟨e', l, rfl, rfl⟩))⟩⟩
   · rename_i k v a k' v' a' l hl hne
     split at h
     case isFalse => cases h
     rename_i hc
     cases h
     obtain ⟨rfl, rfl, rfl⟩ := hc
     exact ⟨rfl, rfl, .inr ⟨id, _, hid, hl, .inr (.inr (.inr (.inl ⟨_, _, _, l, rfl, rfl⟩)))⟩⟩
   · rename_i e e' l hl hne
     split at h
     case isFalse => cases h
     rename_i hc
     subst hc
     cases h
     exact ⟨rfl, rfl, .inr ⟨id, _, hid, hl, .inr (.inr (.inr (.inr (.inl ⟨rfl, rfl⟩))))⟩⟩
   · rename_i k e k' e' l hl hne
     split at h
     case isFalse => cases h
     rename_i hc
     obtain ⟨rfl, rfl⟩ := hc
     cases h
     exact ⟨rfl, rfl, .inr ⟨id, _, hid, hl, .inr (.inr (.inr (.inr (.inl ⟨rfl, rfl⟩))))⟩⟩
   · rename_i e ls e' pre cs post hl hne
     split at h
     case isFalse => cases h
     split at h
     case h_2 => cases h
     rename_i d hd
     cases h
     have up : ∀ rest, S2 (.zip e ls) ((⟨.list e', pre⟩ :: (d ++ [⟨.list e', post⟩])) ++ rest) = (.zip e' pre (o9 ls d).1 post, rest) := by
      intro rest
      obtain ⟨h1, h2, h3⟩ := G8 hd (⟨.list e', post⟩ :: rest)
      have hp : o9 ls (d ++ (⟨.list e', post⟩ :: rest)) = ((o9 ls d).1, ⟨.list e', post⟩ :: rest) := Prod.ext h2 h1
      show b4e e' pre (o9 ls ((d ++ [⟨.list e', post⟩]) ++ rest)) = _
      rw [List.append_assoc]
      show b4e e' pre (o9 ls (d ++ (⟨.list e', post⟩ :: rest))) = _
      rw [hp]
      simp only [b4e, dif_pos]
     have up0 := up []
     rw [List.append_nil] at up0
     exact ⟨by rw [up], by rw [up, up0], .inr ⟨id, _, hid, hl, .inr (.inr (.inr (.inr (.inr ⟨e', pre, cs, post, ls, d, rfl, hd, by rw [up0]⟩))))⟩⟩
   · cases h
theorem a4T : ∀ {objs : List (Bool × ObT)} {k : Nat} {ds : List Dyn}, a4m ρ hp k objs = some ds → ∀ rest, (s9 k objs (ds ++ rest)).2 = rest ∧ (s9 k objs (ds ++ rest)).1 = (s9 k objs ds).1 ∧
  ∀ j o', look (s9 k objs ds).1 j = some o' → k ≤ j ∧ j < k + objs.length ∧ ∃ bo, objs[j - k]? = some bo ∧ (bo.2 = .gone ∧ o' = .dead ∨ ∃ id ob, ρ.at j = some id ∧ look hp id = some ob ∧ a9q ρ hp ob o')
 | [], k, ds, h, rest => by simp [a4m] at h; subst h; simp [s9, look]
 | o :: r, k, ds, h, rest => by
   simp only [a4m] at h
   split at h
   case h_2 => cases h
   rename_i d ds' hd hds
   cases h
   obtain ⟨h1, h2, h3⟩ := a6v hd (ds' ++ rest)
   obtain ⟨g1, g2, g3⟩ := a6v hd ds'
   obtain ⟨k1, k2, k3⟩ := a4T hds rest
   refine ⟨by simp [s9, h1, k1], by simp [s9, h1, h2, g1, g2, k2], fun j o' hj => ?_⟩
   simp only [s9, g1, g2, j5] at hj
   split at hj
   · rename_i e
     subst e
     cases hj
     exact ⟨Nat.le_refl _, by simp, o, by simp, h3⟩
   · obtain ⟨a1, a2, bo, a3, a4⟩ := k3 j o' hj
     refine ⟨by omega, by simp; omega, bo, ?_, a4⟩
     rw [show j - k = (j - (k + 1)) + 1 by omega]
     simpa using a3
theorem a3k (hob : ∀ id e l, look hp id = some (.frz e l) → ObR w Φ β hp id (.frz e l)) (c : Corr ρ β γ hp hp') : ∀ {sts : List SlT} {vs : List SVal} {us : List Value} {ds : List Dyn}, F2 w Φ β hp vs us → a0U ρ hp sts vs = some ds →
  ∀ rest, (D3 sts (ds ++ rest)).2 = rest ∧ F2 w Φ γ hp' (D3 sts (ds ++ rest)).1 us
 | [], [], us, ds, hv, h, rest => by simp [a0U] at h; subst h; exact ⟨rfl, hv⟩
 | [], _ :: _, us, ds, hv, h, rest => by simp [a0U] at h
 | _ :: _, [], us, ds, hv, h, rest => by simp [a0U] at h
 | st :: r, v :: vs, us, ds, ⟨u, us', e, h1, h2⟩, h, rest => by
   subst e
   simp only [a0U] at h
   split at h
   case h_2 => cases h
   rename_i d ds' hd hds
   cases h
   have one : (K8 st (d ++ (ds' ++ rest))).2 = ds' ++ rest ∧ SVR w Φ γ hp' (K8 st (d ++ (ds' ++ rest))).1 u := by
    unfold c3Y at hd
    split at hd
    · rename_i l x
      obtain ⟨a1, a2, a3⟩ := G8 hd (ds' ++ rest)
      have a4 := G9 hob c (lts := [l]) (ls := [x]) (us := [u]) ⟨u, [], rfl, h1, rfl⟩ hd
      rw [← a2] at a4
      simp only [o9, List.append_nil] at a1 a4
      refine ⟨by simp [K8, a1], ?_⟩
      simp only [K8]
      have hl := n5 a4
      match hh : (P3 l (d ++ (ds' ++ rest))).1, hl, a4 with
      | [y], _, a4 => obtain ⟨q, qs, e, g1, g2⟩ := a4; cases e; exact g1
    · rename_i ls xs
      obtain ⟨vs', e, h1⟩ := h1
      obtain ⟨a1, a2, a3⟩ := G8 hd (ds' ++ rest)
      have a4 := G9 hob c h1 hd
      rw [← a2] at a4
      exact ⟨by simp [K8, a1], vs', e, by simpa [K8] using a4⟩
    · cases hd
      exact ⟨rfl, trivial⟩
    · cases hd
   obtain ⟨k1, k2⟩ := a3k hob c h2 hds rest
   simp only [D3, List.append_assoc, one.1]
   exact ⟨k1, u, us', rfl, one.2, k2⟩
def a1W (w : World) (γ : Loc) (hp : List (Nat × SObj)) (b : Nat) : Prop := (∃ id ob p, look hp id = some ob ∧ ob.owned = true ∧ γ id = some (some (b, p))) ∨ ∃ id ob, look hp id = some ob ∧ E2 w γ id ob b
structure InstR (w : World) (Φ : Nat → Prop) (T : Tm) (ds : List Dyn) (I9 : List Value) (γ : Loc) : Prop where
 I9 : F2 w Φ γ (T.heap ds) (T.I9 ds) I9
 hp : HpR w Φ γ ⟨[], T.heap ds, T.objs.length, []⟩
theorem a1J : ∀ {l : List Nat} {x : Nat}, has l x = true ↔ x ∈ l
 | [], x => by simp [has]
 | k :: r, x => by
   simp only [has]
   cases hb : Nat.beq k x with
   | true => simp [Nat.eq_of_beq_eq_true hb]
   | false =>
     have : x ≠ k := fun e => by subst e; rw [Nat.beq_refl] at hb; cases hb
     simp [a1J (l := r), this]
theorem a1c : ∀ {l : List Nat}, a9K l = true → l.Nodup
 | [], _ => List.nodup_nil
 | x :: r, h => by
   simp only [a9K, and_eq_true, Bool.not_eq_true'] at h
   refine List.nodup_cons.2 ⟨fun hm => ?_, a1c h.2⟩
   rw [a1J.2 hm] at h; cases h.1
theorem a6B {s : St} : ∀ {l : List Nat}, b3o s l = true → ∀ id ∈ l, s.held id = false
 | [], _, id, h => by cases h
 | x :: r, h, id, hm => by
   simp only [b3o, and_eq_true, Bool.not_eq_true'] at h
   rcases List.mem_cons.1 hm with e | hm
   · subst e; exact h.1
   · exact a6B h.2 id hm
theorem O0 : ∀ {ρ : Rho} {k id : Nat}, ρ.at k = some id → id ∈ B9 ρ
 | [], k, id, h => by simp [Rho.at, nth] at h
 | some x :: r, 0, id, h => by simp [Rho.at, nth] at h; subst h; simp [B9]
 | none :: r, 0, id, h => by simp [Rho.at, nth] at h
 | some x :: r, k + 1, id, h => List.mem_cons_of_mem _ (O0 (ρ := r) (k := k) (by simpa [Rho.at, nth] using h))
 | none :: r, k + 1, id, h => O0 (ρ := r) (k := k) (by simpa [Rho.at, nth] using h)
theorem a3L : ∀ {ρ : Rho} {k j id : Nat}, (B9 ρ).Nodup → ρ.at k = some id → ρ.at j = some id → k = j
 | [], k, j, id, _, h, _ => by simp [Rho.at, nth] at h
 | x :: r, 0, 0, id, _, _, _ => rfl
 | some x :: r, 0, j + 1, id, hn, h, h' => by
   simp [Rho.at, nth] at h
   subst h
   exact absurd (O0 (ρ := r) (k := j) (by simpa [Rho.at, nth] using h')) (List.nodup_cons.1 hn).1
 | some x :: r, k + 1, 0, id, hn, h', h => by
   simp [Rho.at, nth] at h
   subst h
   exact absurd (O0 (ρ := r) (k := k) (by simpa [Rho.at, nth] using h')) (List.nodup_cons.1 hn).1
 | none :: r, 0, j + 1, id, hn, h, h' => by simp [Rho.at, nth] at h
 | none :: r, k + 1, 0, id, hn, h, h' => by simp [Rho.at, nth] at h'
 | some x :: r, k + 1, j + 1, id, hn, h, h' => by
   have := a3L (ρ := r) (k := k) (j := j) (List.nodup_cons.1 hn).2 (by simpa [Rho.at, nth] using h) (by simpa [Rho.at, nth] using h')
   omega
 | none :: r, k + 1, j + 1, id, hn, h, h' => by
   have := a3L (ρ := r) (k := k) (j := j) hn (by simpa [Rho.at, nth] using h) (by simpa [Rho.at, nth] using h')
   omega
theorem b2K : ∀ {ρ : Rho} {k id : Nat}, ρ.at k = some id → k < ρ.length
 | [], k, id, h => by simp [Rho.at, nth] at h
 | x :: r, 0, id, h => by simp
 | x :: r, k + 1, id, h => by have := b2K (ρ := r) (k := k) (by simpa [Rho.at, nth] using h); simp; omega
theorem b6G {s : St} {T : Tm} {vs : List SVal} {us : List Value} {a b : List Dyn} (hh : HpR w Φ β s) (hv : F2 w Φ β s.heap vs us) (ha : a4m ρ s.heap 0 T.objs = some a) (hb : a0U ρ s.heap T.slots vs = some b)
  (hn : (B9 ρ).Nodup) (hl : ρ.length ≤ T.objs.length) : InstR w Φ T (a ++ b) us (fun k => (ρ.at k).bind β) ∧
    (∀ k id, ρ.at k = some id → ∀ r, rowOf (look (T.heap (a ++ b)) k) = some r → rowOf (look s.heap id) = some r) ∧
    (∀ k o', look (T.heap (a ++ b)) k = some o' → k < T.objs.length ∧ ∃ bo, T.objs[k]? = some bo ∧ (bo.2 = .gone ∧ o' = .dead ∨ ∃ id ob, ρ.at k = some id ∧ look s.heap id = some ob ∧ ob.owned = true ∧ o'.owned = true ∧ (o'.B2 = true → o' = ob))) := by
 obtain ⟨h1, h2, h3⟩ := a4T ha b
 have hheap : T.heap (a ++ b) = (s9 0 T.objs a).1 := h2
 have hvals : T.I9 (a ++ b) = (D3 T.slots b).1 := by unfold Tm.I9; rw [h1]
 have hob : ∀ id e l, look s.heap id = some (.frz e l) → ObR w Φ β s.heap id (.frz e l) := fun id e l h => hh.ob id _ h
 have hγ : ∀ k id, ρ.at k = some id → (fun k => (ρ.at k).bind β) k = β id := fun k id h => by simp [h]
 have hrow : ∀ k id, ρ.at k = some id → ∀ r, rowOf (look (T.heap (a ++ b)) k) = some r → rowOf (look s.heap id) = some r := by
  intro k id hk r hr
  rw [hheap] at hr
  cases hlk : look (s9 0 T.objs a).1 k with
  | none => rw [hlk] at hr; cases hr
  | some o' =>
    rw [hlk] at hr
    obtain ⟨_, _, bo, _, hc⟩ := h3 k o' hlk
    rcases hc with ⟨_, hd⟩ | ⟨id', ob, g1, g2, g3⟩
    · subst hd; cases hr
    · rw [hk] at g1; cases g1; rw [g2, ← g3.row]; exact hr
 have c : Corr ρ β (fun k => (ρ.at k).bind β) s.heap (T.heap (a ++ b)) := ⟨hγ, hrow⟩
 have hinfo : ∀ k o', look (T.heap (a ++ b)) k = some o' → k < T.objs.length ∧ ∃ bo, T.objs[k]? = some bo ∧ (bo.2 = .gone ∧ o' = .dead ∨ ∃ id ob, ρ.at k = some id ∧ look s.heap id = some ob ∧ a9q ρ s.heap ob o') := by
  intro k o' hk
  rw [hheap] at hk
  obtain ⟨_, g2, bo, g3, g4⟩ := h3 k o' hk
  exact ⟨by omega, bo, by simpa using g3, g4⟩
 have hrl : ∀ k o' c, look (T.heap (a ++ b)) k = some o' → E2 w (fun k => (ρ.at k).bind β) k o' c → ∃ id ob, ρ.at k = some id ∧ look s.heap id = some ob ∧ E2 w β id ob c := by
  intro k o' c hk hc
  obtain ⟨_, bo, _, h4⟩ := hinfo k o' hk
  rcases h4 with ⟨_, hd⟩ | ⟨id, ob, g1, g2, g3⟩
  · subst hd; exact absurd hc (o3 rfl)
  · cases hir : o'.B2 with
    | false => exact absurd hc (o3 hir)
    | true =>
      have := g3.rows hir
      subst this
      exact ⟨id, _, g1, g2, K1 (w := w) (w' := w) (by simp [g1]) (fun _ _ _ => rfl) hc⟩
 refine ⟨⟨?_, ⟨?_, ?_, ?_, ?_, ?_, hh.flt, ?_, ?_⟩⟩, hrow, fun k o' hk => ?_⟩
 · rw [hvals]
   have := (a3k hob c hv hb []).2
   simpa using this
 · intro k o' hk
   obtain ⟨_, bo, _, hc⟩ := hinfo k o' hk
   rcases hc with ⟨_, hd⟩ | ⟨id, ob, g1, g2, g3⟩
   · subst hd; trivial
   · have ho := hh.ob id ob g2
     rcases g3 with ⟨cs, lts, d, rfl, e2, rfl⟩ | ⟨cs, lts, d, rfl, e2, rfl⟩ | ⟨e, l, rfl, rfl⟩ | ⟨kk, v, ag, l, rfl, rfl⟩ | ⟨hir, rfl⟩ | ⟨e, pre, cs, post, lts, d, rfl, e2, rfl⟩
     · obtain ⟨b, vs, k1, k2, k3, k4, k5⟩ := ho
       exact ⟨b, vs, by simp [g1, k1], k2, k3, k4, G9 hob c k5 e2⟩
     · obtain ⟨b, vs, k1, k2, k3, k4, k5⟩ := ho
       exact ⟨b, vs, by simp [g1, k1], k2, k3, k4, G9 hob c k5 e2⟩
     · rcases ho with ⟨k1, k2⟩ | ⟨b, o, k1, k2, k3, k4⟩
       · exact .inl ⟨by simp [g1, k1], k2⟩
       · exact .inr ⟨b, o, by simp [g1, k1], k2, k3, k4⟩
     · obtain ⟨b, es, cl, k1, k2⟩ := ho
       exact ⟨b, es, cl, by simp [g1, k1], k2⟩
     · cases o' with
       | rows e l g => obtain ⟨b, o, hs, k1, k2⟩ := ho; exact ⟨b, o, hs, by simp [g1, k1], k2⟩
       | mrows k e l g => obtain ⟨b, es, cl, k1, k2⟩ := ho; exact ⟨b, es, cl, by simp [g1, k1], k2⟩
       | _ => cases hir
     · obtain ⟨b, o, vs, k1, k2, k3, k4, k5, k6, k7, k8⟩ := ho
       exact ⟨b, o, vs, by simp [g1, k1], k2, k3, k4, k5, G9 hob c k6 e2, k7, k8⟩
 · intro k x hk
   cases hr : ρ.at k with
   | none => simp [hr] at hk
   | some id => exact Nat.lt_of_lt_of_le (b2K hr) hl
 · intro k o' hk
   exact (hinfo k o' hk).1
 · intro k k' o o' b p p' hk hk' ho ho' hb hb'
   obtain ⟨_, bo, _, hc⟩ := hinfo k o hk
   obtain ⟨_, bo', _, hc'⟩ := hinfo k' o' hk'
   rcases hc with ⟨_, hd⟩ | ⟨id, ob, g1, g2, g3⟩
   · subst hd; cases ho
   rcases hc' with ⟨_, hd⟩ | ⟨id', ob', g1', g2', g3'⟩
   · subst hd; cases ho'
   simp only [g1, g1', Option.bind_some] at hb hb'
   have := hh.inj id id' ob ob' b p p' g2 g2' g3.owned.2 g3'.owned.2 hb hb'
   subst this
   exact a3L hn g1 g1'
 · intro k b p hk
   cases hr : ρ.at k with
   | none => simp [hr] at hk
   | some id => exact hh.blt id b p (by simpa [hr] using hk)
 · intro k o' c hk hc
   obtain ⟨id, ob, g1, g2, g3⟩ := hrl k o' c hk hc
   obtain ⟨k1, k2, k3⟩ := hh.rin id ob c g2 g3
   refine ⟨k1, k2, fun k' o2 p hk' ho' hb => ?_⟩
   obtain ⟨_, bo', _, hc'⟩ := hinfo k' o2 hk'
   rcases hc' with ⟨_, hd⟩ | ⟨id', ob', g1', g2', g3'⟩
   · subst hd; cases ho'
   · exact k3 id' ob' p g2' g3'.owned.2 (by simpa [g1'] using hb)
 · intro k k' o o' c hk hk' hc hc'
   obtain ⟨id, ob, g1, g2, g3⟩ := hrl k o c hk hc
   obtain ⟨id', ob', g1', g2', g3'⟩ := hrl k' o' c hk' hc'
   have := hh.rinj id id' ob ob' c g2 g2' g3 g3'
   subst this
   exact a3L hn g1 g1'
 · obtain ⟨g1, bo, g2, hc⟩ := hinfo k o' hk
   refine ⟨g1, bo, g2, ?_⟩
   rcases hc with hc | ⟨id, ob, e1, e2, e3⟩
   · exact .inl hc
   · exact .inr ⟨id, ob, e1, e2, e3.owned.2, e3.owned.1, e3.rows⟩
end
section
variable {w0 : World} {Φ0 own0 : Nat → Prop} {N : Frm} {w w' : World} {Φ Φ' : Nat → Prop} {β β' β2 : Loc} {a : Act} {objs : List (Bool × ObT)}
theorem N5 : ∀ {ρ : Rho} {k id j i : Nat}, ρ.at k = some id → (ρ.bind j i).at k = some id
 | [], k, id, j, i, h => by simp [Rho.at, nth] at h
 | some x :: r, 0, id, 0, i, h => by simpa [Rho.bind, Rho.at, nth] using h
 | none :: r, 0, id, 0, i, h => by simp [Rho.at, nth] at h
 | x :: r, 0, id, j + 1, i, h => by simpa [Rho.bind, Rho.at, nth] using h
 | some x :: r, k + 1, id, 0, i, h => by simpa [Rho.bind, Rho.at, nth] using h
 | none :: r, k + 1, id, 0, i, h => by simpa [Rho.bind, Rho.at, nth] using h
 | x :: r, k + 1, id, j + 1, i, h => by
   have := N5 (ρ := r) (k := k) (j := j) (i := i) (by simpa [Rho.at, nth] using h)
   simpa [Rho.bind, Rho.at, nth] using this
theorem Z3 : ∀ {xs ys : List (Option Nat)} {ρ : Rho} {k id : Nat}, ρ.at k = some id → (K3 ρ xs ys).at k = some id
 | [], _, ρ, k, id, h => by simpa [K3] using h
 | some j :: r, [], ρ, k, id, h => by simpa [K3] using h
 | some j :: r, none :: s, ρ, k, id, h => by simpa [K3] using h
 | some j :: r, some i :: s, ρ, k, id, h => by simp only [K3]; exact Z3 (N5 h)
 | none :: r, [], ρ, k, id, h => by simpa [K3] using h
 | none :: r, x :: s, ρ, k, id, h => by simp only [K3]; exact Z3 h
structure Prep (w : World) (Φ : Nat → Prop) (β : Loc) (p : PS) (β' : Loc) (p' : PS) : Prop where
 mono : Mono w Φ β p.s.heap w Φ β' p'.s.heap
 env : p'.s.env = p.s.env
 hold : p'.s.hold = p.s.hold
 old : ∀ id ob, look p.s.heap id = some ob → (∀ e l, ob ≠ .arr e l) → look p'.s.heap id = some ob
 rho : ∀ k id, p.ρ.at k = some id → p'.ρ.at k = some id
 gh : (∀ id ∈ p.g, β id = some none) → ∀ id ∈ p'.g, β' id = some none
theorem Mono.refl (w : World) (Φ : Nat → Prop) (β : Loc) (hp : List (Nat × SObj)) : Mono w Φ β hp w Φ β hp := ⟨fun _ _ => rfl, fun _ h => h, fun _ _ h => h, fun _ _ _ _ h => h, fun _ _ _ _ _ _ => rfl⟩
theorem Prep.refl (β : Loc) (p : PS) : Prep w Φ β p β p := ⟨.refl .., rfl, rfl, fun _ _ h _ => h, fun _ _ h => h, fun h => h⟩
theorem Prep.bind (β : Loc) (p : PS) (ρ : Rho) (h : ∀ k id, p.ρ.at k = some id → ρ.at k = some id) : Prep w Φ β p β { p with ρ := ρ } := ⟨.refl .., rfl, rfl, fun _ _ h _ => h, h, fun h => h⟩
theorem Prep.frz (β : Loc) (p : PS) (f : List Nat) : Prep w Φ β p β { p with f := f } := ⟨.refl .., rfl, rfl, fun _ _ h _ => h, fun _ _ h => h, fun h => h⟩
theorem Prep.trans {p p' p2 : PS} (h : Prep w Φ β p β' p') (k : Prep w Φ β' p' β2 p2) : Prep w Φ β p β2 p2 :=
 ⟨h.mono.trans k.mono, k.env.trans h.env, k.hold.trans h.hold, fun id ob g g' => k.old id ob (h.old id ob g g') g', fun j i g => k.rho j i (h.rho j i g), fun g => k.gh (h.gh g)⟩
theorem b0N {s : St} (hr : Rel w0 Φ0 own0 N w Φ β s a) (e : CT) : Rel w0 Φ0 own0 N w Φ (β.at s.next none) (s.new (.arr e [])) a ∧ Mono w Φ β s.heap w Φ (β.at s.next none) (s.new (.arr e [])).heap :=
 ⟨hr.a5Z (.arr e []) rfl none (fun _ _ h => by cases h) (.inl ⟨by simp [Loc.at], rfl⟩), a0d hr.hp _ _⟩
theorem a8U {s : St} {id : Nat} : Mono w Φ β s.heap w Φ β (s.put id .dead).heap := by
 refine ⟨fun _ _ => rfl, fun _ h => h, fun _ _ h => h, ?_, fun _ _ _ _ _ _ => rfl⟩
 intro j x hx r hrr
 simp only [St.put, j5] at hrr
 split at hrr
 · cases hrr
 · exact hrr
theorem a8b {s : St} (hr : Rel w0 Φ0 own0 N w Φ β s a) {id : Nat} {e : CT} {l : List e.denote} {r : Nat × Nat} {u : Value} (hl : look s.heap id = some (.arr e l)) (hh : s.held id = false) (hsz : 0 < e.size) (hv : LfR w Φ β s.heap (.sl id (some r)) u) :
  ∃ β', Rel w0 Φ0 own0 N w Φ β' ((s.put id .dead).new (.arr e (sub l (some r)))) a ∧ Mono w Φ β s.heap w Φ β' ((s.put id .dead).new (.arr e (sub l (some r)))).heap ∧
   LfR w Φ β' ((s.put id .dead).new (.arr e (sub l (some r)))).heap (.sl s.next none) u := by
 have hgive := hr.d0l rfl hl rfl hh
 have hfree : ∀ b' p, β id = some (some (b', p)) → (∀ id' ob q, look (s.put id .dead).heap id' = some ob → ob.owned = true → β id' ≠ some (some (b', q))) ∧ b' < w.heap.size ∧ (own0 b' ∨ w0.heap.size ≤ b') := by
  intro b' p hp
  refine ⟨fun id' ob q hl' ho' hq => ?_, hr.hp.blt id b' p hp, hr.b0W hh hl rfl hp⟩
  simp only [St.put, j5] at hl'
  split at hl'
  · cases hl'; cases ho'
  · rename_i hne; exact hne (hr.hp.inj id id' _ _ b' p q hl hl' rfl ho' hp hq)
 obtain ⟨loc, hloc, hsh, hs⟩ := hv
 have hsl := hs e.size l.length (by rw [hl]; rfl)
 have hm := (a8U (w := w) (Φ := Φ) (β := β) (s := s) (id := id)).trans (a0d hgive.hp (.arr e (sub l (some r))) none)
 have empty : sub l (some r) = [] → (∃ z, u = .slice z 0 0) → ∃ β', Rel w0 Φ0 own0 N w Φ β' ((s.put id .dead).new (.arr e (sub l (some r)))) a ∧ Mono w Φ β s.heap w Φ β' ((s.put id .dead).new (.arr e (sub l (some r)))).heap ∧
   LfR w Φ β' ((s.put id .dead).new (.arr e (sub l (some r)))).heap (.sl s.next none) u := by
  intro h1 h2
  refine ⟨β.at s.next none, hgive.a5Z (.arr e (sub l (some r))) rfl none (fun _ _ h => by cases h) (.inl ⟨by simp [Loc.at, St.put], h1⟩), hm, none, by simp [Loc.at], hsh, fun sz n hrw => ?_⟩
  simp only [St.new, St.put, j5, if_true, rowOf] at hrw
  cases hrw
  exact ⟨h2, by rw [h1]; rfl, by rw [h1]; rfl⟩
 cases loc with
 | none =>
   obtain ⟨h1, h2, h3⟩ := hsl
   have : l = [] := List.eq_nil_of_length_eq_zero h2
   subst this
   exact empty (by simp [sub]) h1
 | some bo =>
   obtain ⟨b, o⟩ := bo
   obtain ⟨o', cap, e1, e2, e3, e4, e5, _⟩ := hsl
   simp only [Option.getD_some] at e1 e2 e3 e4
   have hlen := a0l l (some r) (by simpa using e4)
   simp only [Option.getD_some] at hlen
   by_cases hc : cap = 0
   · have h0 : r.2 = 0 := by omega
     exact empty (List.eq_nil_of_length_eq_zero (by rw [hlen, h0])) ⟨_, by rw [e1, h0, hc]⟩
   · have h3 : o' = o + r.1 * e.size := by rcases e3 with e3 | e3; exact e3; exact absurd e3 hc
     have h5 : o' + cap * e.size = l5 w b := by rcases e5 with e5 | e5; exact e5; exact absurd e5 hc
     rcases hr.hp.ob id _ hl with ⟨g1, _⟩ | ⟨b', p', g1, hnΦ, hfz, hrow⟩
     · rw [hloc] at g1; cases g1
     rw [hloc] at g1; cases g1
     have hrow' : G0 w Φ e b o' (sub l (some r)) := by
      intro j xx hj
      obtain ⟨us, k1, k2⟩ := hrow _ xx (a3R l (some r) j xx hj)
      refine ⟨us, ?_, k2⟩
      rw [h3]
      simpa [Nat.add_mul, Nat.add_assoc] using k1
     have hm2 := (a8U (w := w) (Φ := Φ) (β := β) (s := s) (id := id)).trans (a0d hgive.hp (.arr e (sub l (some r))) (some (b, o')))
     refine ⟨β.at s.next (some (b, o')), hgive.a5Z (.arr e (sub l (some r))) rfl (some (b, o')) (fun b' p hbp => by cases hbp; obtain ⟨q1, q2, q3⟩ := hfree b o hloc; exact ⟨q1, q2, q3, c4d hr hl rfl hloc (fun _ _ => rfl)⟩) (.inr ⟨b, o', by simp [Loc.at, St.put], hnΦ, hfz, hrow'⟩), hm2,
      some (b, o'), by simp [Loc.at], hsh, fun sz n hrw => ?_⟩
     simp only [St.new, St.put, j5, if_true, rowOf] at hrw
     cases hrw
     exact ⟨o', cap, by rw [e1]; simp [hlen], by simp [hlen]; omega, .inl (by simp), by simp, .inl h5, fun _ => ⟨rfl, h5, hsz⟩⟩
theorem b1h {lt : LT} {l : Leaf} {u : Value} {p : PS} (hr : Rel w0 Φ0 own0 N w Φ β p.s a) (hg : ∀ id ∈ p.g, β id = some none) (hv : LfR w Φ β p.s.heap l u) :
  ∃ β', Rel w0 Φ0 own0 N w Φ β' (a5g objs lt l p).2.s a ∧ Prep w Φ β p β' (a5g objs lt l p).2 ∧ LfR w Φ β' (a5g objs lt l p).2.s.heap (a5g objs lt l p).1 u := by
 unfold a5g
 split
 · exact ⟨β, hr, .bind _ _ _ (fun _ _ => N5), hv⟩
 · exact ⟨β, hr, .bind _ _ _ (fun _ _ => N5), hv⟩
 · exact ⟨β, hr, .bind _ _ _ (fun _ _ => N5), hv⟩
 · rename_i k id r
   split
   · rename_i e l hk hl
     cases hc : (p.s.held id || !Nat.blt 0 e.size) with
     | true => exact ⟨β, hr, .refl .., hv⟩
     | false =>
       simp only [Bool.or_eq_false_iff, Bool.not_eq_false'] at hc
       obtain ⟨β', g1, g2, g3⟩ := a8b hr hl hc.1 (by rw [← Nat.blt_eq]; exact hc.2) hv
       refine ⟨β', g1, ⟨g2, rfl, rfl, fun j ob hj hne => ?_, fun _ _ => N5, fun h j hj => g2.loc _ _ (h j hj)⟩, g3⟩
       have h1 : j ≠ p.s.next := fun e => by subst e; rw [hr.hp.a8O] at hj; cases hj
       have h2 : j ≠ id := fun e => by subst e; rw [hl] at hj; cases hj; exact hne _ _ rfl
       show look ((p.s.put id .dead).new _).heap j = _
       simp only [St.new, St.put, j5]
       rw [if_neg (fun e => h1 e.symm), if_neg (fun e => h2 e.symm)]
       exact hj
   · exact ⟨β, hr, .refl .., hv⟩
 · rename_i k
   split
   · rename_i id hk
     cases hc : has p.g id with
     | false => exact ⟨β, hr, .refl .., hv⟩
     | true =>
       refine ⟨β, hr, .refl .., none, hg id (a1J.1 hc), ⟨_, _, _, hv⟩, fun sz n hrw => ?_⟩
       have hv' : u = .slice none 0 0 := hv
       replace hrw : rowOf (look p.s.heap id) = some (sz, n) := hrw
       cases hl : look p.s.heap id with
       | none => rw [hl] at hrw; cases hrw
       | some ob =>
         have hob := hr.hp.ob id ob hl
         have hb := hg id (a1J.1 hc)
         rw [hl] at hrw
         have h0 : n = 0 := by
          cases ob with
          | dead => cases hrw
          | box cs => cases hrw
          | map _ _ _ _ => cases hrw
          | mrows _ _ _ _ => cases hrw
          | rows e l g => obtain ⟨b, o, hs, k1, _⟩ := hob; rw [hb] at k1; cases k1
          | zip e l cs q => obtain ⟨b, o, hs, k1, _⟩ := hob; rw [hb] at k1; cases k1
          | cells cs => obtain ⟨b, vs, k1, _⟩ := hob; rw [hb] at k1; cases k1
          | arr e l =>
            rcases hob with ⟨_, k2⟩ | ⟨b, o, k1, _⟩
            · subst k2; cases hrw; rfl
            · rw [hb] at k1; cases k1
          | frz e l =>
            rcases hob with ⟨_, k2⟩ | ⟨b, o, k1, _⟩
            · subst k2; cases hrw; rfl
            · rw [hb] at k1; cases k1
         subst h0
         exact ⟨⟨none, hv'⟩, rfl, rfl⟩
   · split
     · rename_i bb e hk
       obtain ⟨g1, g2⟩ := b0N hr e
       refine ⟨_, g1, ⟨g2, rfl, rfl, fun j ob hj hne => ?_, fun _ _ => N5, fun h j hj => ?_⟩, none, by simp [Loc.at], ⟨_, _, _, hv⟩, fun sz n hrw => ?_⟩
       · have h1 : j ≠ p.s.next := fun e => by subst e; rw [hr.hp.a8O] at hj; cases hj
         show look (p.s.new _).heap j = _
         simp only [St.new, j5]
         rw [if_neg (fun e => h1 e.symm)]
         exact hj
       · rcases List.mem_cons.1 hj with e1 | hj
         · subst e1; simp [Loc.at]
         · exact g2.loc _ _ (h j hj)
       · simp only [St.new, j5, if_true, rowOf] at hrw
         cases hrw
         exact ⟨⟨none, hv⟩, rfl, rfl⟩
     · exact ⟨β, hr, .refl .., hv⟩
 · exact ⟨β, hr, .bind _ _ _ (fun _ _ h => Z3 (Z3 h)), hv⟩
 · exact ⟨β, hr, .bind _ _ _ (fun _ _ => N5), hv⟩
 · exact ⟨β, hr, .bind _ _ _ (fun _ _ => N5), hv⟩
 · exact ⟨β, hr, .bind _ _ _ (fun _ _ => N5), hv⟩
 · exact ⟨β, hr, .refl .., hv⟩
theorem a3Z {hp hp' : List (Nat × SObj)} (m : Mono w Φ β hp w' Φ' β' hp') : ∀ {l : List SVal} {v : List Value}, F2 w Φ β hp l v → F2 w' Φ' β' hp' l v
 | [], _, h => h
 | l :: ls, _, ⟨v, vs', e, h1, h2⟩ => ⟨v, vs', e, K2 m _ _ h1, a3Z m h2⟩
theorem b5K {β : Loc} {hp : List (Nat × SObj)} {ls : List Leaf} {us : List Value} (n : Nat) (h1 : p8 w Φ β hp (ls.take n) (us.take n)) (m : List Leaf) (h2 : p8 w Φ β hp m (us.drop n)) : p8 w Φ β hp (ls.take n ++ m) us := by
 have := a5T h1 h2
 rwa [List.take_append_drop] at this
theorem L0 : ∀ {lts : List LT} {ls : List Leaf} {us : List Value} {p : PS} {β : Loc}, Rel w0 Φ0 own0 N w Φ β p.s a → (∀ id ∈ p.g, β id = some none) → p8 w Φ β p.s.heap ls us →
  ∃ β', Rel w0 Φ0 own0 N w Φ β' (C8 objs lts ls p).2.s a ∧ Prep w Φ β p β' (C8 objs lts ls p).2 ∧ p8 w Φ β' (C8 objs lts ls p).2.s.heap (C8 objs lts ls p).1 us
 | [], ls, us, p, β, hr, hg, hv => ⟨β, hr, .refl .., hv⟩
 | lt :: r, ls, us, p, β, hr, hg, hv => by
   simp only [C8]
   split
   · rename_i t ht
     obtain ⟨β', g1, g2, g3⟩ := L0 (lts := r) (p := { p with f := b1F (ls.take t.size) ++ p.f }) hr hg (J1 t.size hv)
     refine ⟨β', g1, (Prep.frz β p _).trans g2, ?_⟩
     exact b5K t.size (p9 g2.mono _ _ (J2 t.size hv)) _ g3
   · cases ls with
     | nil => exact ⟨β, hr, .refl .., hv⟩
     | cons l ls =>
       obtain ⟨u, us', e, h1, h2⟩ := hv
       subst e
       obtain ⟨β1, g1, g2, g3⟩ := b1h (objs := objs) (lt := lt) hr hg h1
       obtain ⟨β2, k1, k2, k3⟩ := L0 (lts := r) g1 (g2.gh hg) (p9 g2.mono _ _ h2)
       exact ⟨β2, k1, g2.trans k2, u, us', rfl, a5S k2.mono _ _ g3, k3⟩
theorem a9R {st : SlT} {v : SVal} {u : Value} {p : PS} (hr : Rel w0 Φ0 own0 N w Φ β p.s a) (hg : ∀ id ∈ p.g, β id = some none) (hv : SVR w Φ β p.s.heap v u) :
  ∃ β', Rel w0 Φ0 own0 N w Φ β' (a1h objs st v p).2.s a ∧ Prep w Φ β p β' (a1h objs st v p).2 ∧ SVR w Φ β' (a1h objs st v p).2.s.heap (a1h objs st v p).1 u := by
 unfold a1h
 split
 · rename_i l x
   obtain ⟨β', g1, g2, g3⟩ := L0 (objs := objs) (lts := [l]) (ls := [x]) (us := [u]) hr hg ⟨u, [], rfl, hv, rfl⟩
   split
   · rename_i x' hx
     rw [hx] at g3
     obtain ⟨q, qs, e, h1, h2⟩ := g3
     cases e
     exact ⟨β', g1, g2, h1⟩
   · exact ⟨β, hr, .refl .., hv⟩
 · obtain ⟨vs, e, h1⟩ := hv
   obtain ⟨β', g1, g2, g3⟩ := L0 (objs := objs) hr hg h1
   exact ⟨β', g1, g2, vs, e, g3⟩
 · exact ⟨β, hr, .refl .., hv⟩
theorem a2m : ∀ {sts : List SlT} {vs : List SVal} {us : List Value} {p : PS} {β : Loc}, Rel w0 Φ0 own0 N w Φ β p.s a → (∀ id ∈ p.g, β id = some none) → F2 w Φ β p.s.heap vs us →
  ∃ β', Rel w0 Φ0 own0 N w Φ β' (V3 objs sts vs p).2.s a ∧ Prep w Φ β p β' (V3 objs sts vs p).2 ∧ F2 w Φ β' (V3 objs sts vs p).2.s.heap (V3 objs sts vs p).1 us
 | [], vs, us, p, β, hr, hg, hv => by cases vs <;> exact ⟨β, hr, .refl .., hv⟩
 | st :: r, [], us, p, β, hr, hg, hv => ⟨β, hr, .refl .., hv⟩
 | st :: r, v :: vs, us, p, β, hr, hg, ⟨u, us', e, h1, h2⟩ => by
   subst e
   obtain ⟨β1, g1, g2, g3⟩ := a9R (objs := objs) (st := st) hr hg h1
   obtain ⟨β2, k1, k2, k3⟩ := a2m (sts := r) g1 (g2.gh hg) (a3Z g2.mono h2)
   exact ⟨β2, k1, g2.trans k2, u, us', rfl, K2 k2.mono _ _ g3, k3⟩
structure Mk (mk : List Leaf → SObj) (q : Nat) : Prop where
 nr : ∀ cs, (mk cs).B2 = false
 ow : ∀ cs, (mk cs).owned = true
 na : ∀ cs e l, mk cs ≠ .arr e l
 row : ∀ cs cs', cs.length = cs'.length → rowOf (some (mk cs)) = rowOf (some (mk cs'))
 ob : ∀ (w : World) (Φ : Nat → Prop) (β : Loc) (hp : List (Nat × SObj)) (id : Nat) (cs : List Leaf), ObR w Φ β hp id (mk cs) → ∃ b o us, β id = some (some (b, o)) ∧ l6 w b (o + q) us ∧ p8 w Φ β hp cs us ∧
  ∀ hp' cs', Mono w Φ β hp w Φ β hp' → p8 w Φ β hp' cs' us → ObR w Φ β hp' id (mk cs')
theorem Mk.box : Mk .box 0 := ⟨fun _ => rfl, fun _ => rfl, fun _ _ _ h => (by cases h), fun _ _ _ => rfl, fun w Φ β hp id cs h => by
 obtain ⟨b, vs, k1, k2, k3, k4, k5⟩ := h
 exact ⟨b, 0, vs, k1, k4, k5, fun hp' cs' m h' => ⟨b, vs, k1, k2, k3, k4, h'⟩⟩⟩
theorem Mk.cells : Mk .cells 0 := ⟨fun _ => rfl, fun _ => rfl, fun _ _ _ h => (by cases h), fun _ _ h => (by simp [rowOf, h]), fun w Φ β hp id cs h => by
 obtain ⟨b, vs, k1, k2, k3, k4, k5⟩ := h
 exact ⟨b, 0, vs, k1, k4, k5, fun hp' cs' m h' => ⟨b, vs, k1, k2, k3, k4, h'⟩⟩⟩
theorem Mk.zip (e : CT) (pre post : List e.denote) : Mk (fun cs => .zip e pre cs post) (pre.length * e.size) := ⟨fun _ => rfl, fun _ => rfl, fun _ _ _ h => (by cases h), fun _ _ _ => rfl, fun w Φ β hp id cs h => by
 obtain ⟨b, o, vs, k1, k2, k3, k4, k5, k6, k7, k8⟩ := h
 exact ⟨b, o, vs, k1, k5, k6, fun hp' cs' m h' => ⟨b, o, vs, k1, k2, k3, k4, k5, h', k7, k8⟩⟩⟩
theorem b2Z {s : St} (hr : Rel w0 Φ0 own0 N w Φ β s a) {id q : Nat} {mk : List Leaf → SObj} (hmk : Mk mk q) {cs cs' : List Leaf} (hl : look s.heap id = some (mk cs)) (hh : s.held id = false)
  (h : ∀ b o us, β id = some (some (b, o)) → l6 w b (o + q) us → p8 w Φ β s.heap cs us → p8 w Φ β s.heap cs' us) : Rel w0 Φ0 own0 N w Φ β (s.put id (mk cs')) a ∧ Mono w Φ β s.heap w Φ β (s.put id (mk cs')).heap := by
 obtain ⟨b, o, us, k1, k4, k5, kf⟩ := hmk.ob _ _ _ _ _ _ (hr.hp.ob id _ hl)
 have h' := h b o us k1 k4 k5
 have hlen : rowOf (some (mk cs')) = rowOf (some (mk cs)) := hmk.row _ _ (by rw [← n5 h', ← n5 k5])
 have m : Mono w Φ β s.heap w Φ β (s.put id (mk cs')).heap := by
  refine ⟨fun _ _ => rfl, fun _ h => h, fun _ _ h => h, ?_, fun _ _ _ _ _ _ => rfl⟩
  intro j x hx r hrr
  simp only [St.put, j5] at hrr
  split at hrr
  · rename_i e; subst e; rw [hl, ← hlen]; exact hrr
  · exact hrr
 exact ⟨hr.b5z (hmk.nr _) (hmk.nr _) hl (.inl (hmk.ow _)) hh w Φ hr.same rfl (fun _ h => h) (fun _ h => .inl h) (fun _ _ _ => rfl) (fun _ _ => rfl) (fun _ _ => rfl) (.inl hlen) (kf _ _ m (p9 m _ _ h')), m⟩
theorem a0h {id q : Nat} {mk : List Leaf → SObj} (hmk : Mk mk q) {lts : List LT} {cs : List Leaf} {p : PS} (hr : Rel w0 Φ0 own0 N w Φ β p.s a) (hg : ∀ id ∈ p.g, β id = some none) (hl : look p.s.heap id = some (mk cs)) :
  ∃ β', Rel w0 Φ0 own0 N w Φ β' (W5 objs id mk lts cs p).s a ∧ Mono w Φ β p.s.heap w Φ β' (W5 objs id mk lts cs p).s.heap ∧ (W5 objs id mk lts cs p).s.env = p.s.env ∧ (W5 objs id mk lts cs p).s.hold = p.s.hold ∧
   (∀ k id', p.ρ.at k = some id' → (W5 objs id mk lts cs p).ρ.at k = some id') ∧ (∀ id' ∈ (W5 objs id mk lts cs p).g, β' id' = some none) := by
 obtain ⟨b, o, us, hb, hc, hus, _⟩ := hmk.ob _ _ _ _ _ _ (hr.hp.ob id _ hl)
 obtain ⟨β', g1, g2, g3⟩ := L0 (objs := objs) (lts := lts) hr hg hus
 unfold W5
 cases hcond : (Nat.beq (C8 objs lts cs p).2.n p.n || p.s.held id) with
 | true => exact ⟨β', g1, g2.mono, g2.env, g2.hold, g2.rho, g2.gh hg⟩
 | false =>
   simp only [Bool.or_eq_false_iff] at hcond
   have hl' := g2.old id _ hl (fun e l => hmk.na _ e l)
   have hh' : (C8 objs lts cs p).2.s.held id = false := by unfold St.held at *; rw [g2.hold]; exact hcond.2
   obtain ⟨k1, k2⟩ := b2Z (cs' := (C8 objs lts cs p).1) g1 hmk hl' hh' (fun b' o' us' hb' hc' h' => by
    rw [g2.mono.loc _ _ hb] at hb'
    cases hb'
    have : us' = us := a0O hc' hc (by rw [n5 h', n5 hus])
    subst this
    exact g3)
   exact ⟨β', k1, g2.mono.trans k2, g2.env, g2.hold, g2.rho, g2.gh hg⟩
theorem B7 : ∀ {l : List (Bool × ObT)} {k : Nat} {p : PS} {β : Loc}, Rel w0 Φ0 own0 N w Φ β p.s a → (∀ id ∈ p.g, β id = some none) →
  ∃ β', Rel w0 Φ0 own0 N w Φ β' (E5 objs k l p).s a ∧ Mono w Φ β p.s.heap w Φ β' (E5 objs k l p).s.heap ∧ (E5 objs k l p).s.env = p.s.env ∧ (E5 objs k l p).s.hold = p.s.hold ∧
   (∀ j id, p.ρ.at j = some id → (E5 objs k l p).ρ.at j = some id)
 | [], k, p, β, hr, hg => ⟨β, hr, .refl .., rfl, rfl, fun _ _ h => h⟩
 | o :: r, k, p, β, hr, hg => by
   simp only [E5]
   split
   · rename_i id hid
     split
     · rename_i ls cs ho hl
       obtain ⟨β1, g1, g2, g3, g4, g5, g6⟩ := a0h (objs := objs) Mk.box (lts := ls) hr hg hl
       obtain ⟨β2, k1, k2, k3, k4, k5⟩ := B7 (l := r) (k := k + 1) g1 g6
       exact ⟨β2, k1, g2.trans k2, k3.trans g3, k4.trans g4, fun j i h => k5 j i (g5 j i h)⟩
     · rename_i ls cs ho hl
       obtain ⟨β1, g1, g2, g3, g4, g5, g6⟩ := a0h (objs := objs) Mk.cells (lts := ls) hr hg hl
       obtain ⟨β2, k1, k2, k3, k4, k5⟩ := B7 (l := r) (k := k + 1) g1 g6
       exact ⟨β2, k1, g2.trans k2, k3.trans g3, k4.trans g4, fun j i h => k5 j i (g5 j i h)⟩
     · exact B7 (l := r) (k := k + 1) (p := { p with f := id :: p.f }) hr hg
     · exact B7 (l := r) (k := k + 1) (p := { p with f := id :: p.f }) hr hg
     · rename_i e' ls e pre cs post ho hl
       obtain ⟨β1, g1, g2, g3, g4, g5, g6⟩ := a0h (objs := objs) (Mk.zip e pre post) (lts := ls) hr hg hl
       obtain ⟨β2, k1, k2, k3, k4, k5⟩ := B7 (l := r) (k := k + 1) g1 g6
       exact ⟨β2, k1, g2.trans k2, k3.trans g3, k4.trans g4, fun j i h => k5 j i (g5 j i h)⟩
     · exact B7 (l := r) (k := k + 1) hr hg
   · exact B7 (l := r) (k := k + 1) hr hg
theorem b1O {s : St} (hr : Rel w0 Φ0 own0 N w Φ β s a) {id : Nat} {e : CT} {pre : List e.denote} {cs : List Leaf} {post : List e.denote} (hl : look s.heap id = some (.zip e pre cs post)) (hh : s.held id = false) :
  ∃ Φ', Rel w0 Φ0 own0 N w Φ' β (unzip id e pre cs post s) a ∧ Mono w Φ β s.heap w Φ' β (unzip id e pre cs post s).heap ∧ (unzip id e pre cs post s).env = s.env ∧ (unzip id e pre cs post s).hold = s.hold := by
 unfold unzip
 split
 case h_2 => exact ⟨Φ, hr, .refl .., rfl, rfl⟩
 rename_i y s' hp
 obtain ⟨b, o, us, k1, k2, k3, k4, k5, k6, k7, k8⟩ := hr.hp.ob id _ hl
 obtain ⟨Φ', p1, p2, p3⟩ := O9 hr k6 hp
 split
 case h_2 => exact ⟨Φ', p1, p2.mono, p2.env, p2.hold⟩
 rename_i e2 pre2 cs2 post2 hl2
 have hl2' := p2.look id _ hl2 rfl
 rw [hl] at hl2'
 cases hl2'
 have hh' : s'.held id = false := by unfold St.held at *; rw [p2.hold]; exact hh
 obtain ⟨b', o', us', q1, q2, q3, q4, q5, q6, q7, q8⟩ := p1.hp.ob id _ hl2
 rw [k1] at q1; cases q1
 have hus : us' = us := a0O q5 k5 (by rw [q7, k7])
 subst hus
 have hrow : rowOf (some (.arr e (pre ++ y :: post))) = rowOf (some (.zip e pre cs post)) := by simp [rowOf]; omega
 have m : Mono w Φ' β s'.heap w Φ' β (s'.put id (.arr e (pre ++ y :: post))).heap := by
  refine ⟨fun _ _ => rfl, fun _ h => h, fun _ _ h => h, ?_, fun _ _ _ _ _ _ => rfl⟩
  intro j x hx r hrr
  simp only [St.put, j5] at hrr
  split at hrr
  · rename_i e; subst e; rw [hl2, ← hrow]; exact hrr
  · exact hrr
 refine ⟨Φ', p1.b5z rfl rfl hl2 (.inl rfl) hh' w Φ' p1.same rfl (fun _ h => h) (fun _ h => .inl h) (fun _ _ _ => rfl) (fun _ _ => rfl) (fun _ _ => rfl) (.inl hrow) (.inr ⟨b, o, k1, q2, q3, fun i x hx => ?_⟩), p2.mono.trans m, p2.env, p2.hold⟩
 rw [nth_getElem?] at hx
 rcases Nat.lt_trichotomy i pre.length with h | h | h
 · rw [List.getElem?_append_left h] at hx
   exact q4 i x (by rw [nth_getElem?]; exact hx)
 · subst h
   rw [List.getElem?_append_right (Nat.le_refl _), Nat.sub_self] at hx
   cases hx
   exact ⟨us', q5, p3⟩
 · rw [List.getElem?_append_right (by omega), show i - pre.length = (i - pre.length - 1) + 1 by omega, List.getElem?_cons_succ] at hx
   obtain ⟨vs, v1, v2⟩ := q8 _ x (by rw [nth_getElem?]; exact hx)
   refine ⟨vs, ?_, v2⟩
   rw [Nat.add_assoc, ← Nat.add_mul, show pre.length + 1 + (i - pre.length - 1) = i by omega] at v1
   exact v1
theorem C7 : ∀ {ids : List Nat} {s : St} {Φ : Nat → Prop}, Rel w0 Φ0 own0 N w Φ β s a → ∃ Φ', Rel w0 Φ0 own0 N w Φ' β (a1X ids s) a ∧ Mono w Φ β s.heap w Φ' β (a1X ids s).heap ∧ (a1X ids s).env = s.env ∧ (a1X ids s).hold = s.hold
 | [], s, Φ, hr => ⟨Φ, hr, .refl .., rfl, rfl⟩
 | id :: r, s, Φ, hr => by
   simp only [a1X]
   split
   · rename_i e l hl
     cases hh : s.held id with
     | true => exact C7 (ids := r) hr
     | false =>
       obtain ⟨Φ1, g1, g2, _⟩ := hr.freeze hl hh
       obtain ⟨Φ2, k1, k2, k3, k4⟩ := C7 (ids := r) g1
       exact ⟨Φ2, k1, g2.mono.trans k2, k3, k4⟩
   · rename_i e l hl
     cases hh : s.held id with
     | true => exact C7 (ids := r) hr
     | false =>
       obtain ⟨Φ1, g1, g2⟩ := hr.b9U hl hh
       obtain ⟨Φ2, k1, k2, k3, k4⟩ := C7 (ids := r) g1
       exact ⟨Φ2, k1, g2.trans k2, k3, k4⟩
   · rename_i k e l hl
     cases hh : s.held id with
     | true => exact C7 (ids := r) hr
     | false =>
       obtain ⟨Φ1, g1, g2⟩ := hr.b9T hl hh
       obtain ⟨Φ2, k1, k2, k3, k4⟩ := C7 (ids := r) g1
       exact ⟨Φ2, k1, g2.trans k2, k3, k4⟩
   · rename_i e pre cs post hl
     cases hh : s.held id with
     | true => exact C7 (ids := r) hr
     | false =>
       obtain ⟨Φ1, g1, g2, g3, g4⟩ := b1O hr hl hh
       obtain ⟨Φ2, k1, k2, k3, k4⟩ := C7 (ids := r) g1
       exact ⟨Φ2, k1, g2.trans k2, k3.trans g3, k4.trans g4⟩
   · exact C7 (ids := r) hr
theorem a2K : ∀ {ρ : Rho} {id : Nat}, id ∈ B9 ρ → ∃ k, ρ.at k = some id
 | [], id, h => by simp [B9] at h
 | some x :: r, id, h => by
   rcases List.mem_cons.1 h with e | h
   · subst e; exact ⟨0, rfl⟩
   · obtain ⟨k, hk⟩ := a2K (ρ := r) h; exact ⟨k + 1, by simpa [Rho.at, nth] using hk⟩
 | none :: r, id, h => by obtain ⟨k, hk⟩ := a2K (ρ := r) h; exact ⟨k + 1, by simpa [Rho.at, nth] using hk⟩
structure PackR (w0 : World) (Φ0 own0 : Nat → Prop) (N : Frm) (w : World) (Φ : Nat → Prop) (β : Loc) (s : St) (a : Act) (T : Tm) (ρ0 : Rho) (us : List Value) (ds : List Dyn) (ρ : Rho) (s1 : St) (Φ1 : Nat → Prop) (β1 : Loc) : Prop where
 rel : Rel w0 Φ0 own0 N w Φ1 β1 s1 a
 inst : InstR w Φ1 T ds us (fun k => (ρ.at k).bind β1)
 row : ∀ k id, ρ.at k = some id → ∀ r, rowOf (look (T.heap ds) k) = some r → rowOf (look s1.heap id) = some r
 obj : ∀ k o', look (T.heap ds) k = some o' → k < T.objs.length ∧ ∃ bo, T.objs[k]? = some bo ∧ (bo.2 = .gone ∧ o' = .dead ∨ ∃ id ob, ρ.at k = some id ∧ look s1.heap id = some ob ∧ ob.owned = true ∧ o'.owned = true ∧ (o'.B2 = true → o' = ob))
 mono : Mono w Φ β s.heap w Φ1 β1 s1.heap
 env : s1.env = s.env
 hold : s1.hold = s.hold
 rho : ∀ k id, ρ0.at k = some id → ρ.at k = some id
 nodup : (B9 ρ).Nodup
 len : ρ.length ≤ T.objs.length
 free : ∀ id ∈ B9 ρ, s1.held id = false
theorem b1f {s : St} (hr : Rel w0 Φ0 own0 N w Φ β s a) {T : Tm} {ρ0 : Rho} {vs : List SVal} {us : List Value} {q : Packed0} (hv : F2 w Φ β s.heap vs us) (h : b7W T ρ0 vs s = some q) :
  ∃ Φ1 β1, PackR w0 Φ0 own0 N w Φ β s a T ρ0 us q.ds q.ρ q.s Φ1 β1 := by
 unfold b7W at h
 obtain ⟨β1, g1, g2, g3⟩ := a2m (objs := T.objs) (sts := T.slots) (p := { s := s, ρ := ρ0 }) hr (fun id h => by cases h) hv
 generalize hps : V3 T.objs T.slots vs { s := s, ρ := ρ0 } = ps at *
 obtain ⟨vs', p0⟩ := ps
 simp only at h g1 g2 g3
 obtain ⟨β2, k1, k2, k3, k4, k5⟩ := B7 (objs := T.objs) (l := T.objs) (k := 0) g1 (g2.gh (fun id h => by cases h))
 generalize hp : E5 T.objs 0 T.objs p0 = p at *
 obtain ⟨Φ3, l1, l2, l3, l4⟩ := C7 (ids := p.f) k1
 generalize hs1 : a1X p.f p.s = s1 at *
 split at h
 case h_2 => cases h
 rename_i x y hx hy
 obtain ⟨hb, h⟩ := g8 h
 cases h
 simp only [and_eq_true] at hb
 have hv' := a3Z (k2.trans l2) g3
 obtain ⟨m1, m2, m3⟩ := b6G l1.hp hv' hx hy (a1c hb.1) (Nat.le_of_ble_eq_true hb.2.2)
 exact ⟨Φ3, β2, ⟨l1, m1, m2, m3, (g2.mono.trans k2).trans l2, by rw [l3, k3, g2.env], by rw [l4, k4, g2.hold], fun k id hk => k5 k id (g2.rho k id hk), a1c hb.1, Nat.le_of_ble_eq_true hb.2.2, a6B hb.2.1⟩⟩
theorem J5 {s s1 : St} (hr : Rel w0 Φ0 own0 N w Φ β s a) {T : Tm} {ρ0 ρ : Rho} {vs : List SVal} {us : List Value} {d : T.ct.denote} (hv : F2 w Φ β s.heap vs us) (h : a2k T ρ0 vs s = some (d, ρ, s1)) :
  ∃ Φ1 β1, PackR w0 Φ0 own0 N w Φ β s a T ρ0 us (m4 T.cts d) ρ s1 Φ1 β1 := by
 unfold a2k at h
 split at h
 case h_2 => cases h
 rename_i q hq
 split at h
 case h_2 => cases h
 rename_i d' hd
 cases h
 rw [a7I hd]
 exact b1f hr hv hq
end
def E1 (T : Tm) (k : Nat) : Prop := ∃ o, nth T.objs k = some (true, o)
structure PostR (w : World) (Φ : Nat → Prop) (γ : Loc) (T : Tm) (ds : List Dyn) (w' : World) (Φ' : Nat → Prop) (γ' : Loc) (T' : Tm) (ds' : List Dyn) : Prop where
 same : Same w (a1W w γ (T.heap ds)) w'
 mem : ∀ b, a1W w' γ' (T'.heap ds') b → a1W w γ (T.heap ds) b ∨ w.heap.size ≤ b
 sub : ∀ b, Φ b → Φ' b
 fro : ∀ b, Φ' b → Φ b ∨ a1W w γ (T.heap ds) b ∨ w.heap.size ≤ b
 keep : ∀ k, E1 T k → Kept w γ (T.heap ds) w' γ' (T'.heap ds') k
section
variable {w0 : World} {Φ0 own0 : Nat → Prop} {N : Frm} {w w' : World} {Φ Φ' Φ1 : Nat → Prop} {β β1 γ γ' : Loc} {s s1 : St} {a : Act} {hp hp' : List (Nat × SObj)} {f : Nat → Nat}
theorem a2S (h : ∀ k x, γ k = some x → β (f k) = some x) : ∀ (l : List (Option Nat)) (vs : List Value), a3X γ l vs → a3X β (b0a f l) vs
 | [], _, g => g
 | none :: r, _, ⟨v, vs', e, g1, g2⟩ => ⟨v, vs', e, g1, a2S h r vs' g2⟩
 | some id :: r, _, ⟨v, vs', e, ⟨b, g1, g3⟩, g2⟩ => ⟨v, vs', e, ⟨b, h _ _ g1, g3⟩, a2S h r vs' g2⟩
theorem b3f (h : ∀ k x, γ k = some x → β (f k) = some x) (hr : ∀ k r, rowOf (look hp (f k)) = some r → rowOf (look hp' k) = some r) : ∀ (l : Leaf) (v : Value), LfR w Φ γ hp' l v → LfR w Φ β hp (c6u f l) v
 | .undef, _, g => g
 | .int _ _, _, g => g
 | .bool _, _, g => g
 | .str _, _, g => g
 | .list _ _, _, g => g
 | .clist _ _, _, g => g
 | .nils, _, g => g
 | .ptr id off, v, ⟨b, h1, h2⟩ => ⟨b, h _ _ h1, h2⟩
 | .eptr id i off, v, ⟨loc, h1, hp, h2⟩ => ⟨loc, h _ _ h1, hp, fun sz n hrw => h2 sz n (hr _ _ hrw)⟩
 | .vptr _ _ _, _, g => g
 | .sl id r, v, ⟨loc, h1, hs, h2⟩ => ⟨loc, h _ _ h1, hs, fun sz n hrw => h2 sz n (hr _ _ hrw)⟩
 | .fn g xs ys, v, ⟨us, vs, h1, h2, h3⟩ => ⟨us, vs, h1, a2S h _ _ h2, a2S h _ _ h3⟩
 | .ifp t id off, v, ⟨b, h1, h2⟩ => ⟨b, h _ _ h1, h2⟩
 | .ifi _ _ _, _, g => g
 | .mp id, v, ⟨b, h1, h2⟩ => ⟨b, h _ _ h1, h2⟩
 | .nilp, _, g => g
 | .nilf, _, g => g
 | .nili, _, g => g
 | .nilm, _, g => g
 | .anyb, _, g => g
theorem a0J (h : ∀ k x, γ k = some x → β (f k) = some x) (hr : ∀ k r, rowOf (look hp (f k)) = some r → rowOf (look hp' k) = some r) : ∀ (l : List Leaf) (v : List Value), p8 w Φ γ hp' l v → p8 w Φ β hp (a5o f l) v
 | [], _, g => g
 | l :: ls, _, ⟨v, vs', e, h1, h2⟩ => ⟨v, vs', e, b3f h hr l v h1, a0J h hr ls vs' h2⟩
theorem b9e (h : ∀ k x, γ k = some x → β (f k) = some x) (hr : ∀ k r, rowOf (look hp (f k)) = some r → rowOf (look hp' k) = some r) (x : SVal) (v : Value) (hx : ∀ ps, x ≠ .tup ps) (g : SVR w Φ γ hp' x v) : SVR w Φ β hp (d2l f x) v := by
 cases x with
 | one l => exact b3f h hr l v g
 | agg cs => obtain ⟨vs, e, g⟩ := g; exact ⟨vs, e, a0J h hr _ _ g⟩
 | tup ps => exact absurd rfl (hx ps)
 | skip => exact g
theorem a4V : ∀ {sts : List SlT} {ds : List Dyn} (v : SVal), v ∈ (D3 sts ds).1 → ∀ ps, v ≠ .tup ps
 | [], ds, v, h => by simp [D3] at h
 | st :: r, ds, v, h => by
   simp only [D3, List.mem_cons] at h
   rcases h with h | h
   · subst h
     cases st <;> intro ps e <;> simp [K8] at e
   · exact a4V v h
theorem b0r (h : ∀ k x, γ k = some x → β (f k) = some x) (hr : ∀ k r, rowOf (look hp (f k)) = some r → rowOf (look hp' k) = some r) : ∀ (x : List SVal) (v : List Value), (∀ y ∈ x, ∀ ps, y ≠ .tup ps) → F2 w Φ γ hp' x v → F2 w Φ β hp (b8B f x) v
 | [], _, _, g => g
 | l :: ls, _, hx, ⟨v, vs', e, h1, h2⟩ => ⟨v, vs', e, b9e h hr l v (hx l (by simp)) h1, b0r h hr ls vs' (fun y hy => hx y (List.mem_cons_of_mem _ hy)) h2⟩
theorem a9f : ∀ (l : List Leaf), (a5o f l).length = l.length
 | [] => rfl
 | _ :: l => by simp [a5o, a9f l]
theorem a7o (o : SObj) : rowOf (some (a5C f o)) = rowOf (some o) := by cases o <;> simp [a5C, rowOf, a9f]
theorem b5q {o : SObj} (h : (a5C f o).B2 = true) : a5C f o = o := by cases o <;> first | rfl | cases h
theorem N4 (o : SObj) : (a5C f o).owned = o.owned := by cases o <;> rfl
theorem S5 {α : Type} : ∀ (l m : List (Nat × α)) (k : Nat), look (l ++ m) k = (match look l k with
  | some x => some x
  | none => look m k)
 | [], m, k => rfl
 | (j, x) :: l, m, k => by
   simp only [List.cons_append, j5]
   by_cases h : j = k
   · simp only [if_pos h]
   · simp only [if_neg h]
     exact S5 l m k
theorem a3u {α : Type} : ∀ {l : List (Nat × α)} {k : Nat} {x : α}, look l k = some x → (k, x) ∈ l
 | [], k, x, h => by cases h
 | (j, y) :: l, k, x, h => by
   rw [j5] at h
   split at h
   · rename_i e; subst e; cases h; simp
   · exact List.mem_cons_of_mem _ (a3u h)
theorem a8P : ∀ {hp : List (Nat × SObj)} {k : Nat} {o : SObj}, (∀ j ∈ hp.map (·.1), f j = f k → j = k) → look hp k = some o → look (b2J f hp) (f k) = some (a5C f o)
 | [], k, o, _, h => by cases h
 | (j, x) :: l, k, o, hinj, h => by
   rw [j5] at h
   simp only [b2J, j5]
   split at h
   · rename_i e; subst e; cases h; rw [if_pos rfl]
   · rename_i e
     rw [if_neg (fun e' => e (hinj j (by simp) e'))]
     exact a8P (fun i hi => hinj i (by simp at hi ⊢; exact .inr hi)) h
theorem W4 : ∀ {hp : List (Nat × SObj)} {id : Nat} {o2 : SObj}, (∀ i ∈ hp.map (·.1), ∀ j ∈ hp.map (·.1), f i = f j → i = j) → look (b2J f hp) id = some o2 → ∃ k o, look hp k = some o ∧ f k = id ∧ o2 = a5C f o
 | [], id, o2, _, h => by cases h
 | (j, x) :: l, id, o2, hinj, h => by
   simp only [b2J, j5] at h
   split at h
   · rename_i e; cases h; exact ⟨j, x, by simp [j5], e, rfl⟩
   · rename_i e
     obtain ⟨k, o, h1, h2, h3⟩ := W4 (fun a ha b hb => hinj a (by simp at ha ⊢; exact .inr ha) b (by simp at hb ⊢; exact .inr hb)) h
     refine ⟨k, o, ?_, h2, h3⟩
     rw [j5, if_neg (fun e' => by subst e'; exact e h2)]
     exact h1
theorem a2E : ∀ {l : List Nat} {id : Nat}, look (a8v l) id = if id ∈ l then some .dead else none
 | [], id => by simp [a8v, look]
 | x :: r, id => by
   simp only [a8v, j5]
   by_cases e : x = id
   · subst e; simp
   · rw [if_neg e, a2E]
     by_cases h : id ∈ r
     · rw [if_pos h, if_pos (List.mem_cons_of_mem _ h)]
     · rw [if_neg h, if_neg (by simp; exact ⟨fun e' => e e'.symm, h⟩)]
theorem a3o : ∀ {objs : List (Bool × ObT)} {k j : Nat} {ds : List Dyn}, k ≤ j → j < k + objs.length → ∃ o, look (s9 k objs ds).1 j = some o
 | [], k, j, ds, h1, h2 => by simp at h2; omega
 | o :: r, k, j, ds, h1, h2 => by
   simp only [s9, j5]
   split
   · exact ⟨_, rfl⟩
   · exact a3o (by omega) (by simp at h2; omega)
theorem b9b {ob : SObj} {id : Nat} (h : ObR w Φ β hp id ob) (ho : ob.owned = true) : ∃ x, β id = some x := by
 cases ob with
 | dead => cases ho
 | box cs => obtain ⟨b, _, h1, _⟩ := h; exact ⟨_, h1⟩
 | cells cs => obtain ⟨b, _, h1, _⟩ := h; exact ⟨_, h1⟩
 | arr e l => rcases h with ⟨h1, _⟩ | ⟨b, o, h1, _⟩ <;> exact ⟨_, h1⟩
 | frz e l => cases ho
 | map _ _ _ _ => obtain ⟨b, _, _, h1, _⟩ := h; exact ⟨_, h1⟩
 | mrows _ _ _ _ => obtain ⟨b, _, _, h1, _⟩ := h; exact ⟨_, h1⟩
 | rows _ _ _ => obtain ⟨b, _, _, h1, _⟩ := h; exact ⟨_, h1⟩
 | zip _ _ _ _ => obtain ⟨b, _, _, h1, _⟩ := h; exact ⟨_, h1⟩
theorem a0L {ob : SObj} {id b p : Nat} (h : ObR w Φ β hp id ob) (ho : ob.owned = true) (hb : β id = some (some (b, p))) : ¬ Φ b := by
 cases ob with
 | dead => cases ho
 | box cs => obtain ⟨b', _, h1, h2, _⟩ := h; rw [hb] at h1; cases h1; exact h2
 | cells cs => obtain ⟨b', _, h1, h2, _⟩ := h; rw [hb] at h1; cases h1; exact h2
 | arr e l =>
   rcases h with ⟨h1, _⟩ | ⟨b', o, h1, h2, _⟩
   · rw [hb] at h1; cases h1
   · rw [hb] at h1; cases h1; exact h2
 | frz e l => cases ho
 | map _ _ _ _ => obtain ⟨b', _, _, h1, h2, _⟩ := h; rw [hb] at h1; cases h1; exact h2
 | mrows _ _ _ _ => obtain ⟨b', _, _, h1, h2, _⟩ := h; rw [hb] at h1; cases h1; exact h2
 | rows _ _ _ => obtain ⟨b', _, _, h1, h2, _⟩ := h; rw [hb] at h1; cases h1; exact h2
 | zip _ _ _ _ => obtain ⟨b', _, _, h1, h2, _⟩ := h; rw [hb] at h1; cases h1; exact h2
theorem b9c (h : ∀ k x, γ k = some x → β (f k) = some x) (hr : ∀ k r, rowOf (look hp (f k)) = some r → rowOf (look hp' k) = some r) {k : Nat} {o : SObj} (g : ObR w Φ γ hp' k o) : ObR w Φ β hp (f k) (a5C f o) := by
 cases o with
 | dead => trivial
 | box cs => obtain ⟨b, vs, h1, h2, h3, h4, h5⟩ := g; exact ⟨b, vs, h _ _ h1, h2, h3, h4, a0J h hr _ _ h5⟩
 | cells cs => obtain ⟨b, vs, h1, h2, h3, h4, h5⟩ := g; exact ⟨b, vs, h _ _ h1, h2, h3, h4, a0J h hr _ _ h5⟩
 | arr e l =>
   rcases g with ⟨h1, h2⟩ | ⟨b, o, h1, h2⟩
   · exact .inl ⟨h _ _ h1, h2⟩
   · exact .inr ⟨b, o, h _ _ h1, h2⟩
 | frz e l =>
   rcases g with ⟨h1, h2⟩ | ⟨b, o, h1, h2⟩
   · exact .inl ⟨h _ _ h1, h2⟩
   · exact .inr ⟨b, o, h _ _ h1, h2⟩
 | map _ _ _ _ => obtain ⟨b, es, cl, h1, h2⟩ := g; exact ⟨b, es, cl, h _ _ h1, h2⟩
 | mrows _ _ _ _ => obtain ⟨b, es, cl, h1, h2⟩ := g; exact ⟨b, es, cl, h _ _ h1, h2⟩
 | rows _ _ _ => obtain ⟨b, o, hs, h1, h2⟩ := g; exact ⟨b, o, hs, h _ _ h1, h2⟩
 | zip _ _ _ _ => obtain ⟨b, o, vs, h1, h2, h3, h4, h5, h6, h7, h8⟩ := g; exact ⟨b, o, vs, h _ _ h1, h2, h3, h4, h5, a0J h hr _ _ h6, h7, h8⟩
theorem a5c : ∀ {objs : List (Bool × ObT)} {k : Nat} {bo : Bool × ObT}, a4x objs = true → objs[k]? = some bo → bo.2 ≠ .gone
 | [], k, bo, _, h => by simp at h
 | o :: r, 0, bo, hn, h => by
   simp at h; subst h
   obtain ⟨x, y⟩ := o
   cases y <;> simp [a4x] at hn ⊢
 | o :: r, k + 1, bo, hn, h => by
   refine a5c (objs := r) (k := k) ?_ (by simpa using h)
   obtain ⟨x, y⟩ := o
   cases y <;> simp [a4x] at hn ⊢ <;> exact hn
theorem a9t {objs : List (Bool × ObT)} {ρ : Rho} {nx k id : Nat} {o : ObT} (h : nth objs k = some (true, o)) (hid : ρ.at k = some id) : M3 objs ρ nx k = id := by
 unfold M3; rw [h]; simp only [hid]
theorem b1Z {T : Tm} {ρ : Rho} {nx k : Nat} (h : ¬ E1 T k) : M3 T.objs ρ nx k = nx + k := by
 unfold M3
 split
 · rename_i o ho; exact absurd ⟨o, ho⟩ h
 · rfl
theorem Rel.back {T T' : Tm} {ρ0 ρ : Rho} {us rs : List Value} {ds ds' : List Dyn} (hp : PackR w0 Φ0 own0 N w Φ β s a T ρ0 us ds ρ s1 Φ1 β1) (hng : a4x T.objs = true) (hi : InstR w' Φ' T' ds' rs γ')
  (hpost : PostR w Φ1 (fun k => (ρ.at k).bind β1) T ds w' Φ' γ' T' ds') :
  ∃ β', Rel w0 Φ0 own0 N w' Φ' β' (a0M T ρ T' ds' s1) a ∧ Mono w Φ1 β1 s1.heap w' Φ' β' (a0M T ρ T' ds' s1).heap ∧ F2 w' Φ' β' (a0M T ρ T' ds' s1).heap (R0 T ρ T' ds' s1) rs := by
 have hr := hp.rel
 have ent : ∀ k, k < T.objs.length → ∃ o' id ob, look (T.heap ds) k = some o' ∧ ρ.at k = some id ∧ look s1.heap id = some ob ∧ ob.owned = true ∧ o'.owned = true := by
  intro k hk
  obtain ⟨o', ho'⟩ := a3o (objs := T.objs) (k := 0) (j := k) (ds := ds) (by omega) (by omega)
  obtain ⟨_, bo, h2, h3⟩ := hp.obj k o' ho'
  rcases h3 with ⟨h3, _⟩ | ⟨id, ob, h3, h4, h5, h6⟩
  · exact absurd h3 (a5c hng h2)
  · exact ⟨o', id, ob, ho', h3, h4, h5, h6.1⟩
 have stl : ∀ k, E1 T k → k < T.objs.length := by
  rintro k ⟨o, ho⟩
  rw [nth_getElem?] at ho
  exact (List.getElem?_eq_some_iff.1 ho).1
 have hB : ∀ b, a1W w (fun k => (ρ.at k).bind β1) (T.heap ds) b → ∃ k id ob, ρ.at k = some id ∧ look s1.heap id = some ob ∧ ob.owned = true ∧ s1.held id = false ∧ ((∃ p, β1 id = some (some (b, p))) ∨ E2 w β1 id ob b) := by
  rintro b (⟨k, o', p, h1, h2, h3⟩ | ⟨k, o', h1, h2⟩)
  · obtain ⟨hk, _⟩ := hp.obj k o' h1
    obtain ⟨_, id, ob, _, h5, h6, h7, _⟩ := ent k hk
    exact ⟨k, id, ob, h5, h6, h7, hp.free id (O0 h5), .inl ⟨p, by simpa [h5] using h3⟩⟩
  · obtain ⟨hk, bo, _, hc⟩ := hp.obj k o' h1
    rcases hc with ⟨_, hd⟩ | ⟨id, ob, h5, h6, h7, h8, h9⟩
    · subst hd; exact absurd h2 (o3 rfl)
    · cases hir : o'.B2 with
      | false => exact absurd h2 (o3 hir)
      | true =>
        have := h9 hir
        subst this
        exact ⟨k, id, _, h5, h6, h7, hp.free id (O0 h5), .inr (K1 (w := w) (w' := w) (by simp [h5]) (fun _ _ _ => rfl) h2)⟩
 have hBown : ∀ b, a1W w (fun k => (ρ.at k).bind β1) (T.heap ds) b → own0 b ∨ w0.heap.size ≤ b := by
  intro b hb
  obtain ⟨k, id, ob, h1, h2, h3, h5, h4⟩ := hB b hb
  rcases h4 with ⟨p, h4⟩ | h4
  · exact hr.b0W h5 h2 h3 h4
  · exact hr.rown id ob b h2 h4
 have hBΦ : ∀ b, Φ1 b → ¬ a1W w (fun k => (ρ.at k).bind β1) (T.heap ds) b := by
  intro b hΦ hb
  obtain ⟨k, id, ob, h1, h2, h3, h5, h4⟩ := hB b hb
  rcases h4 with ⟨p, h4⟩ | h4
  · exact a0L (hr.hp.ob id ob h2) h3 h4 hΦ
  · exact (hr.hp.rin id ob b h2 h4).1 hΦ
 have notM : ∀ id ob b p, look s1.heap id = some ob → id ∉ B9 ρ → ob.owned = true → β1 id = some (some (b, p)) → ¬ a1W w (fun k => (ρ.at k).bind β1) (T.heap ds) b := by
  intro id ob b p hl hm ho hb hO
  obtain ⟨k, id', ob', g1, g2, g3, g5, g4⟩ := hB b hO
  rcases g4 with ⟨q, g4⟩ | g4
  · have := hr.hp.inj id id' ob ob' b p q hl g2 ho g3 hb g4
    subst this
    exact hm (O0 g1)
  · exact (hr.hp.rin id' ob' b g2 g4).2.2 id ob p hl ho hb
 have notR : ∀ id ob c, look s1.heap id = some ob → id ∉ B9 ρ → E2 w β1 id ob c → ¬ a1W w (fun k => (ρ.at k).bind β1) (T.heap ds) c := by
  intro id ob c hl hm hc hO
  obtain ⟨k, id', ob', g1, g2, g3, g5, g4⟩ := hB c hO
  rcases g4 with ⟨q, g4⟩ | g4
  · exact (hr.hp.rin id ob c hl hc).2.2 id' ob' q g2 g3 g4
  · have := hr.hp.rinj id id' ob ob' c hl g2 hc g4
    subst this
    exact hm (O0 g1)
 have hfrz : ∀ b, Φ1 b → w'.heap[b]? = w.heap[b]? := fun b hb => hpost.same.block b (hr.hp.flt b hb) (hBΦ b hb)
 have fst' : ∀ k, E1 T k → ∃ id, ρ.at k = some id ∧ M3 T.objs ρ s1.next k = id ∧ id < s1.next ∧ β1 id = γ' k ∧ ∃ x, β1 id = some x := by
  intro k hk
  obtain ⟨o', id, ob, h1, h2, h3, h4, h5⟩ := ent k (stl k hk)
  obtain ⟨x, hx⟩ := b9b (hr.hp.ob id ob h3) h4
  obtain ⟨o, ho⟩ := hk
  refine ⟨id, h2, a9t ho h2, hr.hp.hlt id ob h3, ?_, x, hx⟩
  have := (hpost.keep k ⟨o, ho⟩).loc x (by simp [h2, hx])
  rw [this, hx]
 have fnew : ∀ k, ¬ E1 T k → M3 T.objs ρ s1.next k = s1.next + k := fun k hk => b1Z hk
 have finj : ∀ i j, M3 T.objs ρ s1.next i = M3 T.objs ρ s1.next j → i = j := by
  intro i j hij
  by_cases hi' : E1 T i <;> by_cases hj' : E1 T j
  · obtain ⟨id, h1, h2, _⟩ := fst' i hi'
    obtain ⟨id', k1, k2, _⟩ := fst' j hj'
    rw [h2, k2] at hij
    subst hij
    exact a3L hp.nodup h1 k1
  · obtain ⟨id, h1, h2, h3, _⟩ := fst' i hi'
    rw [h2, fnew j hj'] at hij; omega
  · obtain ⟨id, h1, h2, h3, _⟩ := fst' j hj'
    rw [h2, fnew i hi'] at hij; omega
  · rw [fnew i hi', fnew j hj'] at hij; omega
 let f : Nat → Nat := M3 T.objs ρ s1.next
 let β' : Loc := fun id => if id < s1.next then β1 id else if (nth T.objs (id - s1.next)).any (·.1) then none else γ' (id - s1.next)
 have hold' : ∀ id, id < s1.next → β' id = β1 id := fun id h => by simp only [β']; rw [if_pos h]
 have hnotany : ∀ k, ¬ E1 T k → (nth T.objs k).any (·.1) = false := by
  intro k hk
  cases hn : nth T.objs k with
  | none => rfl
  | some bo =>
    obtain ⟨b, o⟩ := bo
    cases b with
    | false => rfl
    | true => exact absurd ⟨o, hn⟩ hk
 have hany : ∀ k, (nth T.objs k).any (·.1) = false → ¬ E1 T k := by
  rintro k h ⟨o, ho⟩
  rw [ho] at h; cases h
 have hnew' : ∀ k, ¬ E1 T k → β' (s1.next + k) = γ' k := fun k hk => by
  simp only [β']
  rw [if_neg (by omega), Nat.add_sub_cancel_left, hnotany k hk]
  rfl
 have hβf : ∀ k, β' (f k) = γ' k := by
  intro k
  by_cases hk : E1 T k
  · obtain ⟨id, h1, h2, h3, h4, _⟩ := fst' k hk
    show β' (M3 T.objs ρ s1.next k) = _
    rw [h2, hold' id h3, h4]
  · show β' (M3 T.objs ρ s1.next k) = _
    rw [fnew k hk, hnew' k hk]
 have hkeys : ∀ i ∈ (T'.heap ds').map (·.1), ∀ j ∈ (T'.heap ds').map (·.1), f i = f j → i = j := fun i _ j _ h => finj i j h
 let hp2 := (a0M T ρ T' ds' s1).heap
 have hp2e : hp2 = b2J f (T'.heap ds') ++ (a8v (B9 ρ) ++ s1.heap) := rfl
 have cases2 : ∀ id o2, look hp2 id = some o2 → (∃ k o, look (T'.heap ds') k = some o ∧ f k = id ∧ o2 = a5C f o) ∨ o2 = .dead ∨ (look s1.heap id = some o2 ∧ id ∉ B9 ρ) := by
  intro id o2 h
  rw [hp2e, S5] at h
  split at h
  · rename_i x hx
    cases h
    exact .inl (W4 hkeys hx)
  · rw [S5, a2E] at h
    by_cases hm : id ∈ B9 ρ
    · rw [if_pos hm] at h; cases h; exact .inr (.inl rfl)
    · rw [if_neg hm] at h; exact .inr (.inr ⟨h, hm⟩)
 have lookf : ∀ k o, look (T'.heap ds') k = some o → look hp2 (f k) = some (a5C f o) := by
  intro k o h
  rw [hp2e, S5, a8P (fun j _ e => finj j k e) h]
 have hrow2 : ∀ k r, rowOf (look hp2 (f k)) = some r → rowOf (look (T'.heap ds') k) = some r := by
  intro k r hrw
  cases hl : look hp2 (f k) with
  | none => rw [hl] at hrw; cases hrw
  | some o2 =>
    rw [hl] at hrw
    rcases cases2 _ _ hl with ⟨k', o, h1, h2, h3⟩ | h | ⟨h1, h2⟩
    · have := finj k' k h2
      subst this
      rw [h3, a7o] at hrw
      rw [h1]; exact hrw
    · subst h; cases hrw
    · exfalso
      by_cases hk : E1 T k
      · obtain ⟨id, g1, g2, _⟩ := fst' k hk
        have : f k = id := g2
        rw [this] at h2
        exact h2 (O0 g1)
      · have : f k = s1.next + k := fnew k hk
        rw [this] at h1
        have := hr.hp.hlt _ _ h1; omega
 have apart : ∀ id ob, look s1.heap id = some ob → id ∉ B9 ρ → ∀ b p, β1 id = some (some (b, p)) → ob.owned = true ∨ (∃ e l, ob = .frz e l) → w'.heap[b]? = w.heap[b]? := by
  intro id ob hl hm b p hb ho
  refine hpost.same.block b (hr.hp.blt _ _ _ hb) fun hB' => ?_
  rcases ho with ho | ⟨e, l, rfl⟩
  · exact notM id ob b p hl hm ho hb hB'
  · rcases hr.hp.ob id _ hl with ⟨k1, _⟩ | ⟨b', o', k1, k2, _⟩
    · rw [hb] at k1; cases k1
    · rw [hb] at k1; cases k1
      exact hBΦ _ k2 hB'
 have apartR : ∀ id ob, look s1.heap id = some ob → id ∉ B9 ρ → ∀ c, E2 w β1 id ob c → w'.heap[c]? = w.heap[c]? ∧ (¬ Φ1 c → ¬ Φ' c) := by
  intro id ob hl hm c hc
  have h2 := notR id ob c hl hm hc
  obtain ⟨k1, k2, _⟩ := hr.hp.rin id ob c hl hc
  refine ⟨hpost.same.block c k2 h2, fun hn hn' => ?_⟩
  rcases hpost.fro c hn' with g | g | g
  · exact hn g
  · exact h2 g
  · omega
 have m : Mono w Φ1 β1 s1.heap w' Φ' β' hp2 := by
  refine ⟨hfrz, hpost.sub, fun id x hx => by rw [hold' id (hr.hp.lt id x hx)]; exact hx, ?_, ?_⟩
  · intro id x hx r hrw
    cases hl : look hp2 id with
    | none => rw [hl] at hrw; cases hrw
    | some o2 =>
      rw [hl] at hrw
      rcases cases2 _ _ hl with ⟨k, o, h1, h2, h3⟩ | h | ⟨h1, _⟩
      · by_cases hk : E1 T k
        · obtain ⟨id', g1, g2, g3, g4, x', g5⟩ := fst' k hk
          have : f k = id' := g2
          rw [h2] at this; subst this
          rw [h3, a7o] at hrw
          exact hp.row k id g1 r ((hpost.keep k hk).row x' (by simp [g1, g5]) r (by rw [h1]; exact hrw))
        · have : f k = s1.next + k := fnew k hk
          have := hr.hp.lt id x hx; omega
      · subst h; cases hrw
      · rw [h1]; exact hrw
  · intro id b o r hb hrw
    cases hl : look hp2 id with
    | none => rw [hl] at hrw; cases hrw
    | some o2 =>
      rw [hl] at hrw
      rcases cases2 _ _ hl with ⟨k, o', h1, h2, h3⟩ | h | ⟨h1, h2⟩
      · by_cases hk : E1 T k
        · obtain ⟨id', g1, g2, g3, g4, _⟩ := fst' k hk
          have : f k = id' := g2
          rw [h2] at this; subst this
          rw [h3, a7o] at hrw
          exact (hpost.keep k hk).bs b o r (by simp [g1, hb]) (by rw [h1]; exact hrw)
        · have : f k = s1.next + k := fnew k hk
          have := hr.hp.lt id _ hb; omega
      · subst h; cases hrw
      · have : o2.owned = true ∨ ∃ e l, o2 = .frz e l := by
         cases o2 with
         | dead => cases hrw
         | box cs => exact .inl rfl
         | cells cs => exact .inl rfl
         | arr e l => exact .inl rfl
         | frz e l => exact .inr ⟨e, l, rfl⟩
         | map _ _ _ _ => exact .inl rfl
         | rows _ _ _ => exact .inl rfl
         | mrows _ _ _ _ => exact .inl rfl
         | zip _ _ _ _ => exact .inl rfl
        unfold l5
        rw [apart id o2 h1 h2 b o hb this]
 have hloc : ∀ k x, γ' k = some x → β' (f k) = some x := fun k x h => by rw [hβf]; exact h
 have hrl2 : ∀ id o2 c, look hp2 id = some o2 → E2 w' β' id o2 c → (∃ k o, look (T'.heap ds') k = some o ∧ f k = id ∧ E2 w' γ' k o c) ∨ (look s1.heap id = some o2 ∧ id ∉ B9 ρ ∧ E2 w β1 id o2 c) := by
  intro id o2 c hl hc
  rcases cases2 _ _ hl with ⟨k, o, h1, h2, h3⟩ | h | ⟨h1, h2⟩
  · subst h2; subst h3
    cases hir : (a5C f o).B2 with
    | false => exact absurd hc (o3 hir)
    | true =>
      rw [b5q hir] at hc
      exact .inl ⟨k, o, h1, rfl, K1 (w := w') (w' := w') (hβf k) (fun _ _ _ => rfl) hc⟩
  · subst h; exact absurd hc (o3 rfl)
  · cases hir : o2.B2 with
    | false => exact absurd hc (o3 hir)
    | true =>
      have ho : o2.owned = true := by cases o2 <;> first | rfl | cases hir
      exact .inr ⟨h1, h2, K1 (w := w) (hold' id (hr.hp.hlt _ _ h1)) (fun b p hb => apart id o2 h1 h2 b p hb (.inl ho)) hc⟩
 refine ⟨β', ⟨?_, ⟨?_, ?_, ?_, ?_, ?_, hi.hp.flt, ?_, ?_⟩, ?_, ?_, ?_, ?_, hr.size, hr.fix, hr.defers, ?_, hr.a6P m, ?_⟩, m, ?_⟩
 · exact fun t v hv => K2 m _ _ (hr.env t v hv)
 ·
  intro id o2 hl
  rcases cases2 _ _ hl with ⟨k, o, h1, h2, h3⟩ | h | ⟨h1, h2⟩
  · subst h2; subst h3
    exact b9c hloc hrow2 (hi.hp.ob k o h1)
  · subst h; trivial
  · cases ho : o2.owned with
    | true =>
      refine Q9 m (fun b p hb => apart id o2 h1 h2 b p hb (.inl ho)) (fun _ b p hb hn hn' => ?_) (apartR id o2 h1 h2) (hr.hp.ob id o2 h1)
      rcases hpost.fro b hn' with g | g | g
      · exact hn g
      · exact notM id o2 b p h1 h2 ho hb g
      · exact absurd (hr.hp.blt _ _ _ hb) (by omega)
    | false =>
      cases o2 with
      | dead => trivial
      | box cs => cases ho
      | cells cs => cases ho
      | arr e l => cases ho
      | map _ _ _ _ => cases ho
      | rows _ _ _ => cases ho
      | mrows _ _ _ _ => cases ho
      | zip _ _ _ _ => cases ho
      | frz e l =>
        rcases hr.hp.ob id _ h1 with ⟨g1, g2⟩ | ⟨b, p, g1, g2, g3⟩
        · exact .inl ⟨m.loc _ _ g1, g2⟩
        · exact .inr ⟨b, p, m.loc _ _ g1, hpost.sub b g2, G5 m (hfrz b g2) g3⟩
 · intro id x hx
   show id < s1.next + T'.objs.length
   by_cases h : id < s1.next
   · omega
   · have hx' := hx
     simp only [β'] at hx
     rw [if_neg h] at hx
     cases hc : (nth T.objs (id - s1.next)).any (·.1) with
     | true => rw [hc] at hx; cases hx
     | false =>
       rw [hc] at hx
       have := hi.hp.lt (id - s1.next) x (by simpa using hx)
       simp only at this
       omega
 · intro id o2 hl
   show id < s1.next + T'.objs.length
   rcases cases2 _ _ hl with ⟨k, o, h1, h2, h3⟩ | h | ⟨h1, _⟩
   · by_cases hk : E1 T k
     · obtain ⟨id', g1, g2, g3, _⟩ := fst' k hk
       have : f k = id' := g2
       omega
     · have e : f k = s1.next + k := fnew k hk
       have := hi.hp.hlt k o h1
       simp only at this
       omega
   ·
    subst h
    replace hl : look hp2 id = some .dead := hl
    rw [hp2e, S5] at hl
    split at hl
    · rename_i x hx
      obtain ⟨k, o, h1, h2, h3⟩ := W4 hkeys hx
      by_cases hk : E1 T k
      · obtain ⟨id', g1, g2, g3, _⟩ := fst' k hk
        have : f k = id' := g2
        omega
      · have e : f k = s1.next + k := fnew k hk
        have := hi.hp.hlt k o h1
        simp only at this
        omega
    · rw [S5, a2E] at hl
      by_cases hm : id ∈ B9 ρ
      · obtain ⟨k, hk⟩ := a2K hm
        have hkl : k < T.objs.length := by
         have := hp.inst.hp.lt k
         rcases Nat.lt_or_ge k T.objs.length with g | g
         · exact g
         · exfalso
           have hlen := hp.len
           exact absurd (b2K hk) (by omega)
        obtain ⟨_, id', ob, _, h5, h6, _⟩ := ent k hkl
        rw [hk] at h5; cases h5
        have := hr.hp.hlt _ _ h6
        omega
      · rw [if_neg hm] at hl
        have := hr.hp.hlt _ _ hl
        omega
   · have := hr.hp.hlt _ _ h1
     omega
 ·
  intro i j o o2 b p q h1 h2 ho1 ho2 hb hb'
  have cross : ∀ {k : Nat} {ok : SObj} {id : Nat} {ob : SObj} {b p q : Nat}, look (T'.heap ds') k = some ok → ok.owned = true → γ' k = some (some (b, p)) → look s1.heap id = some ob → id ∉ B9 ρ → ob.owned = true → β1 id = some (some (b, q)) → False := by
   intro k ok id ob b p q g1 g2 g3 g4 g5 g6 g7
   rcases hpost.mem b (.inl ⟨k, ok, p, g1, g2, g3⟩) with g | g
   · exact notM id ob b q g4 g5 g6 g7 g
   · have := hr.hp.blt _ _ _ g7; omega
  rcases cases2 _ _ h1 with ⟨k, ok, e1, e2, e3⟩ | h | ⟨e1, e2⟩
  · subst e3
    rw [N4] at ho1
    subst e2
    rw [hβf] at hb
    rcases cases2 _ _ h2 with ⟨k', ok', e1', e2', e3'⟩ | h | ⟨e1', e2'⟩
    · subst e3'
      rw [N4] at ho2
      subst e2'
      rw [hβf] at hb'
      rw [hi.hp.inj k k' ok ok' b p q e1 e1' ho1 ho2 hb hb']
    · subst h; cases ho2
    · rw [hold' j (hr.hp.hlt _ _ e1')] at hb'
      exact (cross e1 ho1 hb e1' e2' ho2 hb').elim
  · subst h; cases ho1
  · rw [hold' i (hr.hp.hlt _ _ e1)] at hb
    rcases cases2 _ _ h2 with ⟨k', ok', e1', e2', e3'⟩ | h | ⟨e1', e2'⟩
    · subst e3'
      rw [N4] at ho2
      subst e2'
      rw [hβf] at hb'
      exact (cross e1' ho2 hb' e1 e2 ho1 hb).elim
    · subst h; cases ho2
    · rw [hold' j (hr.hp.hlt _ _ e1')] at hb'
      exact hr.hp.inj i j o o2 b p q e1 e1' ho1 ho2 hb hb'
 · intro id b p hb
   by_cases h : id < s1.next
   · rw [hold' id h] at hb
     exact Nat.lt_of_lt_of_le (hr.hp.blt id b p hb) hpost.same.size
   · simp only [β'] at hb
     rw [if_neg h] at hb
     cases hc : (nth T.objs (id - s1.next)).any (·.1) with
     | true => rw [hc] at hb; cases hb
     | false => rw [hc] at hb; exact hi.hp.blt _ b p (by simpa using hb)
 ·
  intro id o2 c hl hc
  rcases hrl2 id o2 c hl hc with ⟨k, o, e1, e2, e3⟩ | ⟨e1, e2, e3⟩
  · obtain ⟨k1, k2, k3⟩ := hi.hp.rin k o c e1 e3
    refine ⟨k1, k2, fun id' o' p hl' ho' hb => ?_⟩
    rcases cases2 _ _ hl' with ⟨k', ok', e1', e2', e3'⟩ | h | ⟨e1', e2'⟩
    · subst e3'; subst e2'
      rw [N4] at ho'
      rw [hβf] at hb
      exact k3 k' ok' p e1' ho' hb
    · subst h; cases ho'
    · rw [hold' id' (hr.hp.hlt _ _ e1')] at hb
      rcases hpost.mem c (.inr ⟨k, o, e1, e3⟩) with g | g
      · exact notM id' o' c p e1' e2' ho' hb g
      · have := hr.hp.blt _ _ _ hb; omega
  · obtain ⟨k1, k2, k3⟩ := hr.hp.rin id o2 c e1 e3
    refine ⟨(apartR id o2 e1 e2 c e3).2 k1, Nat.lt_of_lt_of_le k2 hpost.same.size, fun id' o' p hl' ho' hb => ?_⟩
    rcases cases2 _ _ hl' with ⟨k', ok', e1', e2', e3'⟩ | h | ⟨e1', e2'⟩
    · subst e3'; subst e2'
      rw [N4] at ho'
      rw [hβf] at hb
      rcases hpost.mem c (.inl ⟨k', ok', p, e1', ho', hb⟩) with g | g
      · exact notR id o2 c e1 e2 e3 g
      · omega
    · subst h; cases ho'
    · rw [hold' id' (hr.hp.hlt _ _ e1')] at hb
      exact k3 id' o' p e1' ho' hb
 · intro i j o o2 c h1 h2 hc hc'
   rcases hrl2 i o c h1 hc with ⟨k, ok, e1, e2, e3⟩ | ⟨e1, e2, e3⟩ <;> rcases hrl2 j o2 c h2 hc' with ⟨k', ok', e1', e2', e3'⟩ | ⟨e1', e2', e3'⟩
   · rw [← e2, ← e2', hi.hp.rinj k k' ok ok' c e1 e1' e3 e3']
   · rcases hpost.mem c (.inr ⟨k, ok, e1, e3⟩) with g | g
     · exact absurd g (notR j o2 c e1' e2' e3')
     · have := (hr.hp.rin j o2 c e1' e3').2.1; omega
   · rcases hpost.mem c (.inr ⟨k', ok', e1', e3'⟩) with g | g
     · exact absurd g (notR i o c e1 e2 e3)
     · have := (hr.hp.rin i o c e1 e3).2.1; omega
   · exact hr.hp.rinj i j o o2 c e1 e1' e3 e3'
 ·
  intro id o b p hl ho hb
  rcases cases2 _ _ hl with ⟨k, ok, e1, e2, e3⟩ | h | ⟨e1, e2⟩
  · subst e3
    rw [N4] at ho
    subst e2
    rw [hβf] at hb
    rcases hpost.mem b (.inl ⟨k, ok, p, e1, ho, hb⟩) with g | g
    · exact (hBown b g).elim .inl (fun g => .inr (.inl g))
    · exact .inr (.inl (Nat.le_trans hr.same.size g))
  · subst h; cases ho
  · rw [hold' id (hr.hp.hlt _ _ e1)] at hb
    exact hr.own id o b p e1 ho hb
 · refine ⟨hpost.same.os.trans hr.same.os, hpost.same.tape.trans hr.same.tape, hpost.same.output.trans hr.same.output, Nat.le_trans hr.same.size hpost.same.size, fun b hb hn => ?_⟩
   rw [hpost.same.block b (Nat.lt_of_lt_of_le hb hr.same.size) (fun hm => by rcases hBown b hm with g | g; exact hn g; omega)]
   exact hr.same.block b hb hn
 · exact fun b hb => hpost.sub b (hr.fri b hb)
 · intro b hb
   rcases hpost.fro b hb with g | g | g
   · exact hr.fro b g
   · rcases hBown b g with g | g
     · exact .inr (.inl g)
     · exact .inr (.inr g)
   · exact .inr (.inr (Nat.le_trans hr.same.size g))
 · exact fun id x hx => ⟨(hr.hold id x hx).1, m.loc _ _ (hr.hold id x hx).2⟩
 · intro id o2 c hl hc
   rcases hrl2 id o2 c hl hc with ⟨k, o, e1, e2, e3⟩ | ⟨e1, e2, e3⟩
   · rcases hpost.mem c (.inr ⟨k, o, e1, e3⟩) with g | g
     · exact hBown c g
     · exact .inr (Nat.le_trans hr.same.size g)
   · exact hr.rown id o2 c e1 e3
 · exact b0r hloc hrow2 _ _ (fun y hy => a4V y hy) hi.I9
end
def I0 : List Value → Value
 | [v] => v
 | vs => .tuple vs.toArray
def a0B (K : Tm → List Dyn → Prop) : (l : List Tm) → (L8 l).denote → Prop
 | [], _ => False
 | [T'], y => K T' (m4 T'.cts y)
 | T' :: b :: r, y => match y with
   | .inl a => K T' (m4 T'.cts a)
   | .inr c => a0B K (b :: r) c
theorem a0B.mono {K K' : Tm → List Dyn → Prop} (h : ∀ T ds, K T ds → K' T ds) : ∀ {l : List Tm} {y : (L8 l).denote}, a0B K l y → a0B K' l y
 | [], _, g => g
 | [T'], y, g => h _ _ g
 | T' :: b :: r, .inl a, g => h _ _ g
 | T' :: b :: r, .inr c, g => a0B.mono h (l := b :: r) g
def b9a (P : Program) (cx : Cx) (f φ : Nat) : Prop := ∀ d y, cx.rf φ d = some y → (∃ fn : Func, P.funcs[f]? = some fn ∧ (fn.name == "runtime.NumGoroutine") = false ∧ fn.body.isNone = false) ∧
 ∀ (w : World) (Φ : Nat → Prop) (vs : List Value) (γ : Loc), cx.gp w Φ → InstR w Φ (cx.kin φ) (m4 (cx.kin φ).cts d) vs γ →
  Calls P f vs.toArray w fun e w' => ∃ Φ' γ' rs, e = .returned (I0 rs) ∧ a0B (fun T' ds' => InstR w' Φ' T' ds' rs γ' ∧ PostR w Φ γ (cx.kin φ) (m4 (cx.kin φ).cts d) w' Φ' γ' T' ds') (cx.kouts φ) y
section
variable {P : Program} {R : Type} {w0 : World} {Φ0 own0 : Nat → Prop} {N : Frm} {w w' : World} {Φ Φ' : Nat → Prop} {β : Loc} {s s' : St} {a : Act} {hp : List (Nat × SObj)}
variable {cx : Cx} {o : Oper} {next : Act → World → Prop} {Q : Exit → Act → World → Prop} {k : St → Option R} {r : R}
theorem a5X : ∀ {l : List SVal} {u : List Value}, F2 w Φ β hp l u → u.length = l.length
 | [], _, h => by cases h; rfl
 | x :: l, _, ⟨v, vs, e, _, h⟩ => by subst e; simp [a5X h]
theorem a2l : ∀ {vs : List SVal} {us : List Value} {ps : List (List Leaf × Bool)}, partsOf vs = some ps → F2 w Φ β hp vs us → a3Y w Φ β hp ps us
 | [], us, ps, h, hv => by simp [partsOf] at h; subst h; exact hv
 | v :: vs, us, ps, h, ⟨u, us', e, h1, h2⟩ => by
   subst e
   simp only [partsOf] at h
   split at h
   case h_2 => cases h
   rename_i p ps' hp' hps
   cases h
   refine ⟨u, us', rfl, ?_, a2l hps h2⟩
   cases v with
   | one l => cases hp'; show a1Y _ _ _ _ _ _; unfold a1Y; simp only [Bool.false_eq_true, if_false]; exact ⟨u, [], rfl, h1, rfl⟩
   | agg cs => cases hp'; unfold a1Y; simp only [if_true]; exact h1
   | tup _ => cases hp'
   | skip => cases hp'
theorem a0y {vs : List SVal} {us : List Value} {v : SVal} (h : C5 vs = some v) (hv : F2 w Φ β hp vs us) : SVR w Φ β hp v (I0 us) := by
 unfold C5 at h
 split at h
 · cases h
   obtain ⟨u, us', e, h1, h2⟩ := hv
   cases h2; subst e; exact h1
 · rename_i hne
   split at h
   case h_2 => cases h
   rename_i ps hps
   cases h
   have : I0 us = .tuple us.toArray := by
    unfold I0
    split
    · rename_i v'
      have := a5X hv
      match vs, this, hne with
      | [x], _, hne => exact absurd rfl (hne x)
    · rfl
   rw [this]
   exact ⟨us.toArray, rfl, by simpa using a2l hps hv⟩
theorem N8 : ∀ {vs : List SVal} {us : List Value} {l : List (Option Nat)}, F2 w Φ β hp vs us → a0b vs = some l → a3X β l us
 | [], us, l, h, hl => by simp [a0b] at hl; subst hl; exact h
 | v :: vs, us, l, ⟨u, us', e, h1, h2⟩, hl => by
   subst e
   unfold a0b at hl
   split at hl
   · rename_i heq; cases heq
   · rename_i id r heq
     cases heq
     split at hl
     case h_2 => cases hl
     rename_i l' hl'
     cases hl
     obtain ⟨b, g1, g2⟩ := h1
     exact ⟨u, us', rfl, ⟨b, g1, g2⟩, N8 h2 hl'⟩
   · rename_i r heq
     cases heq
     split at hl
     case h_2 => cases hl
     rename_i l' hl'
     cases hl
     exact ⟨u, us', rfl, h1, N8 h2 hl'⟩
   · cases hl
theorem Q0 : ∀ {l : List (Option Nat)} {us : List Value}, a3X β l us → F2 w Φ β hp (a4r l) us
 | [], _, h => h
 | none :: r, _, ⟨v, vs', e, h1, h2⟩ => ⟨v, vs', e, h1, Q0 h2⟩
 | some id :: r, _, ⟨v, vs', e, ⟨b, h1, h3⟩, h2⟩ => ⟨v, vs', e, ⟨b, h1, h3⟩, Q0 h2⟩
theorem a5W : ∀ {l m : List SVal} {u v : List Value}, F2 w Φ β hp l u → F2 w Φ β hp m v → F2 w Φ β hp (l ++ m) (u ++ v)
 | [], m, u, v, h, k => by cases h; exact k
 | x :: l, m, u, v, ⟨a, us, e, h1, h2⟩, k => by subst e; exact ⟨a, us ++ v, rfl, h1, a5W h2 k⟩
theorem a1i (hr : Rel w0 Φ0 own0 N w Φ β s a) {f : Nat} {x y : Array Operand} (ho : o.op = .makeFunc (.func f) x y) (h : j0 cx o s k = some r) : B5 P R (fun _ => True) w Φ β s a o k r := by
 simp only [j0, ho] at h
 split at h
 case h_2 => cases h
 rename_i l m hl hm
 obtain ⟨v1, e1, e2⟩ := Option.bind_eq_some_iff.1 hl
 obtain ⟨v2, f1, f2⟩ := Option.bind_eq_some_iff.1 hm
 have g1 := N8 (E9 hr _ _ e1) e2
 have g2 := N8 (E9 hr _ _ f1) f2
 refine m9 h (v := .func (.func f) (x.map a.eval) (y.map a.eval)) (fun w _ => by simp [execOp, ho, Instr.makeFunc]) ⟨_, _, rfl, ?_, ?_⟩
 · simpa using g1
 · simpa using g2
theorem a8e (hr : Rel w0 Φ0 own0 N w Φ β s a) (hN : ∀ d, o.dst = some d → N.ok d) (hk : ∀ s' a' w' Φ' β', Rel w0 Φ0 own0 N w' Φ' β' s' a' → k s' = some r → next a' w')
  {f : Nat} {x y : Array Operand} (ho : o.op = .makeFunc (.func f) x y) (h : j0 cx o s k = some r) : o.wp P a w next Q :=
 (a1i hr ho h).wp hr trivial hN hk
theorem a3s {T : Tm} {ρ : Rho} {K : Tm → List Dyn → Prop} {k : SVal → St → Option R} : ∀ {l : List Tm} {y : (L8 l).denote}, a0B K l y → P1 T ρ s l y k = some r →
  ∃ T' ds', K T' ds' ∧ ∃ v, C5 (R0 T ρ T' ds' s) = some v ∧ k v (a0M T ρ T' ds' s) = some r
 | [], _, g, _ => g.elim
 | [T'], y, g, h => by
   simp only [P1] at h
   split at h
   · rename_i v hv; exact ⟨_, _, g, v, hv, h⟩
   · cases h
 | T' :: b :: r', .inl x, g, h => by
   simp only [P1] at h
   split at h
   · rename_i v hv; exact ⟨_, _, g, v, hv, h⟩
   · cases h
 | T' :: b :: r', .inr x, g, h => a3s (l := b :: r') g (by simpa only [P1] using h)
theorem a3t {K : Tm → List Dyn → Prop} {k : SVal → St → Option R} : ∀ {l : List Tm} {y : (L8 l).denote}, a0B K l y → P2 s l y k = some r →
  ∃ T' ds', K T' ds' ∧ T'.objs = [] ∧ (T'.I9 ds').all SVal.flat = true ∧ ∃ v, C5 (T'.I9 ds') = some v ∧ k v s = some r
 | [], _, g, _ => g.elim
 | [T'], y, g, h => by
   simp only [P2] at h
   obtain ⟨hb, h⟩ := g8 h
   simp only [and_eq_true, List.isEmpty_iff] at hb
   split at h
   · rename_i v hv; exact ⟨_, _, g, hb.1, hb.2, v, hv, h⟩
   · cases h
 | T' :: b :: r', .inl x, g, h => by
   simp only [P2] at h
   obtain ⟨hb, h⟩ := g8 h
   simp only [and_eq_true, List.isEmpty_iff] at hb
   split at h
   · rename_i v hv; exact ⟨_, _, g, hb.1, hb.2, v, hv, h⟩
   · cases h
 | T' :: b :: r', .inr x, g, h => a3t (l := b :: r') g (by simpa only [P2] using h)
theorem a8D {β' : Loc} {hp' : List (Nat × SObj)} : ∀ {l : Leaf} {u : Value}, l.flat = true → LfR w Φ β hp l u → LfR w' Φ' β' hp' l u
 | .int _ _, _, _, h => h
 | .bool _, _, _, h => h
 | .str _, _, _, h => h
 | .undef, _, h, _ => by cases h
 | .list _ _, _, h, _ => by cases h
 | .clist _ _, _, h, _ => by cases h
 | .nils, _, h, _ => by cases h
 | .ptr _ _, _, h, _ => by cases h
 | .eptr _ _ _, _, h, _ => by cases h
 | .vptr _ _ _, _, h, _ => by cases h
 | .sl _ _, _, h, _ => by cases h
 | .fn _ _ _, _, h, _ => by cases h
 | .ifp _ _ _, _, h, _ => by cases h
 | .ifi _ _ _, _, h, _ => by cases h
 | .mp _, _, h, _ => by cases h
 | .nilp, _, h, _ => by cases h
 | .nilf, _, h, _ => by cases h
 | .nili, _, h, _ => by cases h
 | .nilm, _, h, _ => by cases h
 | .anyb, _, h, _ => by cases h
theorem a6A {β' : Loc} {hp' : List (Nat × SObj)} : ∀ {l : List Leaf} {u : List Value}, l.all Leaf.flat = true → p8 w Φ β hp l u → p8 w' Φ' β' hp' l u
 | [], _, _, h => h
 | x :: l, _, hf, ⟨v, vs, e, h1, h2⟩ => by
   simp only [List.all_cons, and_eq_true] at hf
   exact ⟨v, vs, e, a8D hf.1 h1, a6A hf.2 h2⟩
theorem a8E {β' : Loc} {hp' : List (Nat × SObj)} : ∀ {l : List SVal} {u : List Value}, l.all SVal.flat = true → F2 w Φ β hp l u → F2 w' Φ' β' hp' l u
 | [], _, _, h => h
 | x :: l, _, hf, ⟨v, vs, e, h1, h2⟩ => by
   simp only [List.all_cons, and_eq_true] at hf
   refine ⟨v, vs, e, ?_, a8E hf.2 h2⟩
   cases x with
   | one y => exact a8D (l := y) hf.1 h1
   | agg cs => obtain ⟨us, e1, h3⟩ := h1; exact ⟨us, e1, a6A hf.1 h3⟩
   | tup _ => cases hf.1
   | skip => cases hf.1
theorem Rel.grown (hr : Rel w0 Φ0 own0 N w Φ β s a) (h : Same w (fun _ => False) w') : Rel w0 Φ0 own0 N w' Φ β s a := by
 have hblk : ∀ b, b < w.heap.size → w'.heap[b]? = w.heap[b]? := fun b hb => h.block b hb (fun h => h)
 have m : Mono w Φ β s.heap w' Φ β s.heap := ⟨fun b hb => hblk b (hr.hp.flt b hb), fun _ h => h, fun _ _ h => h, fun _ _ _ _ h => h, fun id b o r hb _ => by
  unfold l5; rw [hblk b (hr.hp.blt id b o hb)]⟩
 have hrb : ∀ {id : Nat} {o : SObj} {c : Nat}, E2 w' β id o c → E2 w β id o c := fun hc => K1 (w := w) rfl (fun b p hb => hblk b (hr.hp.blt _ _ _ hb)) hc
 refine ⟨fun t v hv => K2 m v _ (hr.env t v hv), ⟨fun id o ho => Q9 m (fun b p hb => hblk b (hr.hp.blt id b p hb)) (fun _ _ _ _ h => h) (fun c hc => ⟨hblk c (hr.hp.rin id o c ho hc).2.1, fun h => h⟩) (hr.hp.ob id o ho), hr.hp.lt, hr.hp.hlt, hr.hp.inj, fun id b p hb => Nat.lt_of_lt_of_le (hr.hp.blt id b p hb) h.size, fun b hb => Nat.lt_of_lt_of_le (hr.hp.flt b hb) h.size,
   fun id o c ho hc => ⟨(hr.hp.rin id o c ho (hrb hc)).1, Nat.lt_of_lt_of_le (hr.hp.rin id o c ho (hrb hc)).2.1 h.size, (hr.hp.rin id o c ho (hrb hc)).2.2⟩, fun id id' o o' c ho ho' hc hc' => hr.hp.rinj id id' o o' c ho ho' (hrb hc) (hrb hc')⟩,
  hr.own, ?_, hr.fri, hr.fro, hr.size, hr.fix, hr.defers, hr.hold, hr.a6P m, fun id o c ho hc => hr.rown id o c ho (hrb hc)⟩
 refine ⟨h.os.trans hr.same.os, h.tape.trans hr.same.tape, h.output.trans hr.same.output, Nat.le_trans hr.same.size h.size, fun b hb hn => ?_⟩
 rw [hblk b (Nat.lt_of_lt_of_le hb hr.same.size)]
 exact hr.same.block b hb hn
theorem a2d {args : List SVal} {k : SVal → St → Option R} : ∀ {l : List Nat}, U1 cx args s k l = some r → ∃ φ ∈ l, ∃ d ρ s1 y, a2G (cx.kin φ) args s = some (d, ρ, s1) ∧ cx.rf φ d = some y ∧ (P1 (cx.kin φ) ρ s1 (cx.kouts φ) y k = some r ∨ ((cx.kin φ).objs = [] ∧ P2 s (cx.kouts φ) y k = some r))
 | [], h => by cases h
 | φ :: l, h => by
   simp only [U1] at h
   split at h
   · rename_i d ρ s1 hp
     obtain ⟨y, h1, h2⟩ := Option.bind_eq_some_iff.1 h
     cases hl : cx.lend φ with
     | false => rw [hl] at h2; exact ⟨φ, by simp, d, ρ, s1, y, hp, h1, .inl h2⟩
     | true =>
       rw [hl] at h2
       obtain ⟨hb, h2⟩ := g8 h2
       exact ⟨φ, by simp, d, ρ, s1, y, hp, h1, .inr ⟨List.isEmpty_iff.1 hb, h2⟩⟩
   · obtain ⟨φ', h1, h2⟩ := a2d h
     exact ⟨φ', List.mem_cons_of_mem _ h1, h2⟩
theorem b0H [hG : GlobR cx.gp w0 Φ0 own0] (hf : ∀ f, ∀ φ ∈ cx.keys f, b9a P cx f φ) (hr : Rel w0 Φ0 own0 N w Φ β s a) (hN : ∀ d, o.dst = some d → N.ok d) (hk : ∀ s' a' w' Φ' β', Rel w0 Φ0 own0 N w' Φ' β' s' a' → k s' = some r → next a' w')
  {f : Nat} {args : List SVal} {us : List Value} (hall : F2 w Φ β s.heap args us) (h : U1 cx args s (fun r s' => k (s'.set o.dst r)) (cx.keys f) = some r)
  (hexec : ∀ fn : Func, P.funcs[f]? = some fn → (fn.name == "runtime.NumGoroutine") = false → fn.body.isNone = false → (execOp a.eval o).run P w = .ok (.enter f us.toArray) w) : o.wp P a w next Q := by
 obtain ⟨φ, hφ, d, ρ, s1, y, hpk, hy, hlv⟩ := a2d h
 unfold a2G at hpk
 obtain ⟨hng, hpk⟩ := g8 hpk
 obtain ⟨Φ1, β1, hP⟩ := J5 hr hall hpk
 obtain ⟨⟨fn, hfn1, hfn2, hfn3⟩, hcalls⟩ := hf f φ hφ d y hy
 have hcalls := hcalls w Φ1 _ _ (hG.get hP.rel) hP.inst
 unfold Oper.wp
 rw [hexec fn hfn1 hfn2 hfn3, Oper.upon_enter]
 refine hcalls.mono fun e w' hpost => ?_
 obtain ⟨Φ', γ', rs, he, hout⟩ := hpost
 subst he
 rcases hlv with hlv | ⟨hno, hlv⟩
 case inr =>
  obtain ⟨T', ds', ⟨hi, hpst⟩, hobj, hflat, v, hres, hkk⟩ := a3t hout hlv
  have hown : ∀ b, ¬ a1W w (fun k => (ρ.at k).bind β1) ((cx.kin φ).heap (m4 (cx.kin φ).cts d)) b := by
   rintro b (⟨id, ob, p, h1, _⟩ | ⟨id, ob, h1, _⟩) <;> simp [Tm.heap, hno, s9, look] at h1
  have hsame : Same w (fun _ => False) w' := ⟨hpst.same.os, hpst.same.tape, hpst.same.output, hpst.same.size, fun b hb _ => hpst.same.block b hb (hown b)⟩
  show next (a.put o.dst (I0 rs)) w'
  exact hk _ _ _ _ _ ((hr.grown hsame).set (a0y hres (a8E hflat hi.I9)) hN) hkk
 obtain ⟨T', ds', ⟨hi, hpst⟩, v, hres, hkk⟩ := a3s hout hlv
 obtain ⟨β', k1, k2, k3⟩ := Rel.back hP hng hi hpst
 show next (a.put o.dst (I0 rs)) w'
 exact hk _ _ _ _ _ (k1.set (a0y hres k3) hN) hkk
theorem b1I [hG : GlobR cx.gp w0 Φ0 own0] (hcx : CxOk P cx) (hf : ∀ f, ∀ φ ∈ cx.keys f, b9a P cx f φ) (hr : Rel w0 Φ0 own0 N w Φ β s a) (hN : ∀ d, o.dst = some d → N.ok d) (hk : ∀ s' a' w' Φ' β', Rel w0 Φ0 own0 N w' Φ' β' s' a' → k s' = some r → next a' w')
  {c : Call} (ho : o.op = .call c) {x : Operand} {name : String} (hc : c.callee = .invoke x name) (h : j0 cx o s k = some r) : o.wp P a w next Q := by
 simp only [j0, ho, hc] at h
 split at h
 · cases h
 · cases h
theorem b5t [hG : GlobR cx.gp w0 Φ0 own0] (hf : ∀ f, ∀ φ ∈ cx.keys f, b9a P cx f φ) (hr : Rel w0 Φ0 own0 N w Φ β s a) (hN : ∀ d, o.dst = some d → N.ok d) (hk : ∀ s' a' w' Φ' β', Rel w0 Φ0 own0 N w' Φ' β' s' a' → k s' = some r → next a' w')
  {c : Call} (ho : o.op = .call c) {x : Operand} (hc : c.callee = .value x) (h : j0 cx o s k = some r) : o.wp P a w next Q := by
 simp only [j0, ho, hc] at h
 split at h
 case h_2 => cases h
 rename_i fv args hfv hev
 have hargs := E9 hr _ _ hev
 have hfr := hr.eval hfv
 unfold a8r at h
 split at h
 case h_2 => cases h
 rename_i f xs ys
 obtain ⟨us, vs, e1, hxs, hys⟩ := hfr
 have hall : F2 w Φ β s.heap (a4r xs ++ (args ++ a4r ys)) (us.toList ++ (c.args.toList.map a.eval ++ vs.toList)) := a5W (Q0 hxs) (a5W hargs (Q0 hys))
 refine b0H hf hr hN hk hall h fun fn hfn1 hfn2 hfn3 => ?_
 have : us ++ c.args.map a.eval ++ vs = (us.toList ++ (c.args.toList.map a.eval ++ vs.toList)).toArray := by rw [← Array.toList_inj]; simp
 simp only [execOp, ho, resolve, hc, e1, Deferred.ofValue, Sem.run_bind, Sem.run_pure, Result.andThen_ok, invoke, callFunc, run_program, hfn1, hfn2, hfn3, this, Bool.false_eq_true, if_false]
theorem a3B {T T' : Tm} {ds ds' : List Dyn} {w1 : World} {Φ1 Φ2 : Nat → Prop} {γ β2 : Loc} {us : List Value} {ρ : Rho} {s1 : St} (hkid : N.kid = E1 T) (hkw : N.kw = w) (hkβ : N.kβ = γ) (hkh : N.kh = T.heap ds)
  (hP : PackR w Φ (a1W w γ (T.heap ds)) N w1 Φ1 β s a T' (u0 0 T.objs) us ds' ρ s1 Φ2 β2) : PostR w Φ γ T ds w1 Φ2 (fun k => (ρ.at k).bind β2) T' ds' := by
 have hr := hP.rel
 refine ⟨hr.same, fun b hb => ?_, hr.fri, hr.fro, fun k hk => ?_⟩
 · rcases hb with ⟨k, o', p, h1, h2, h3⟩ | ⟨k, o', h1, h2⟩
   · obtain ⟨_, bo, _, h4⟩ := hP.obj k o' h1
     rcases h4 with ⟨_, h4⟩ | ⟨id, ob, g1, g2, g3, g4⟩
     · subst h4; cases h2
     · exact hr.b0W (hP.free id (O0 g1)) g2 g3 (by simpa [g1] using h3)
   · obtain ⟨_, bo, _, h4⟩ := hP.obj k o' h1
     rcases h4 with ⟨_, h4⟩ | ⟨id, ob, g1, g2, g3, g4, g5⟩
     · subst h4; exact absurd h2 (o3 rfl)
     · cases hir : o'.B2 with
       | false => exact absurd h2 (o3 hir)
       | true =>
         have := g5 hir
         subst this
         exact hr.rown id _ b g2 (K1 (w := w1) (w' := w1) (by simp [g1]) (fun _ _ _ => rfl) h2)
 · have hst : (u0 0 T.objs).at k = some k := by
    obtain ⟨o, ho⟩ := hk
    have : ∀ (l : List (Bool × ObT)) (i j : Nat), nth l i = some (true, o) → (u0 j l).at i = some (j + i) := by
     intro l
     induction l with
     | nil => intro i j h; cases h
     | cons x l ih =>
       intro i j h
       obtain ⟨b, q⟩ := x
       cases i with
       | zero => simp [nth] at h; obtain ⟨rfl, rfl⟩ := h; simp [u0, Rho.at, nth]
       | succ i =>
         have := ih i (j + 1) (by simpa [nth] using h)
         cases b
         · simpa [u0, Rho.at, nth, Nat.add_assoc, Nat.add_comm 1 i] using this
         · simpa [u0, Rho.at, nth, Nat.add_assoc, Nat.add_comm 1 i] using this
    have := this T.objs k 0 ho
    rwa [Nat.zero_add] at this
   have hk' := hP.rho k k hst
   have hkept := hr.keep k (by rw [hkid]; exact hk)
   rw [hkw, hkβ, hkh] at hkept
   refine ⟨fun x hx => ?_, fun x hx r hrw => ?_, fun b o r hb hrw => ?_⟩
   · simp [hk', hkept.loc x hx]
   · exact hkept.row x hx r (hP.row k k hk' r hrw)
   · exact hkept.bs b o r hb (hP.row k k hk' r hrw)
theorem a6W {vs : List SVal} : ∀ {slots : List Nat} {vs : List SVal}, F2 w Φ β hp vs (slots.map fun t => a.tmps.getD t undef) → ∀ t v, look (slots.zip vs) t = some v → SVR w Φ β hp v (a.tmps.getD t undef)
 | [], vs, _, t, v, h => by simp [look] at h
 | n :: r, [], _, t, v, h => by simp [look] at h
 | n :: r, x :: vs, ⟨u, us, e, h1, h2⟩, t, v, h => by
   simp only [List.map_cons, List.cons.injEq] at e
   obtain ⟨rfl, rfl⟩ := e
   simp only [List.zip_cons_cons, j5] at h
   split at h
   · rename_i e; subst e; cases h; exact h1
   · exact a6W (vs := vs) h2 t v h
theorem a4s {T : Tm} {ds : List Dyn} {γ : Loc} {slots : List Nat} {n : Nat} {fix : Nat → Option Value} (hi : InstR w Φ T ds (slots.map fun t => a.tmps.getD t undef) γ) (hsz : a.tmps.size = n) (hfix : ∀ t v, fix t = some v → a.tmps.getD t undef = v) (hd : a.defers = []) :
  Rel w Φ (a1W w γ (T.heap ds)) ⟨n, fix, fun _ _ => False, E1 T, w, γ, T.heap ds⟩ w Φ γ (b9Y slots T ds) a := {
 env := a6W (vs := T.I9 ds) hi.I9
 hp := ⟨hi.hp.ob, hi.hp.lt, hi.hp.hlt, hi.hp.inj, hi.hp.blt, hi.hp.flt, hi.hp.rin, hi.hp.rinj⟩
 own := fun id o b p h1 h2 h3 => .inl (.inl ⟨id, o, p, h1, h2, h3⟩)
 rown := fun id o c h1 h2 => .inl (.inr ⟨id, o, h1, h2⟩)
 same := .refl _ _
 fri := fun _ h => h
 fro := fun _ h => .inl h
 size := hsz
 fix := hfix
 defers := hd
 hold := fun _ _ h => h.elim
 keep := fun id _ => .refl .. }
theorem GlobR.enter {gp : World → (Nat → Prop) → Prop} (hm : a3W gp) (hg : gp w Φ) {T : Tm} {ds : List Dyn} {vs : List Value} {γ : Loc} (hi : InstR w Φ T ds vs γ) : GlobR gp w Φ (a1W w γ (T.heap ds)) := {
 mono := hm
 at0 := hg
 out := fun b hb => ⟨by
  rintro (⟨id, ob, p, h1, h2, h3⟩ | ⟨id, ob, h1, h2⟩)
  · exact a0L (hi.hp.ob id ob h1) h2 h3 hb
  · exact (hi.hp.rin id ob b h1 h2).1 hb, hi.hp.flt b hb⟩ }
end
end Go.Bm
end
