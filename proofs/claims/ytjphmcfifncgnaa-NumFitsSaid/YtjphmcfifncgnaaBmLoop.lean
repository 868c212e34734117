/-
  OUR OWN: pieces of code with a name are sound: tails, and loops by the count of rounds.
-/
import Derived.Test.YtjphmcfifncgnaaBmFn
namespace Go.Bm
set_option linter.unusedVariables false
set_option linter.unusedSimpArgs false

section
variable {P : Program} {w w' w2 : World} {Φ Φ' Φ2 : Nat → Prop} {cx : Cx} {lk tk : Nat → Option Nat} {N : Frm} {β : Loc} {s : St} {a : Act}

theorem Post.trans {bs bs' bs2 : List Nat} (h : Post w Φ bs w' Φ' bs') (k : Post w' Φ' bs' w2 Φ2 bs2) : Post w Φ bs w2 Φ2 bs2 :=
  { same := ⟨k.same.os.trans h.same.os, k.same.tape.trans h.same.tape, k.same.output.trans h.same.output, Nat.le_trans h.same.size k.same.size, fun b h1 h2 => by
      rw [k.same.block b (Nat.lt_of_lt_of_le h1 h.same.size) (fun hm => by
        rcases h.mem b hm with g | g
        · exact h2 g
        · omega), h.same.block b h1 h2]⟩
    nodup := k.nodup
    mem := fun b hb => by
      rcases k.mem b hb with g | g
      · exact h.mem b g
      · exact .inr (Nat.le_trans h.same.size g)
    nf := k.nf
    sub := fun b hb => k.sub b (h.sub b hb)
    fro := fun b hb => ⟨(k.fro b hb).1, by
      rcases (k.fro b hb).2 with g | g | g
      · exact (h.fro b g).2
      · rcases h.mem b g with g | g
        · exact .inr (.inl g)
        · exact .inr (.inr g)
      · exact .inr (.inr (Nat.le_trans h.same.size g))⟩ }

theorem rounds_mono {c : Code} {Q Q' : Exit → Act → World → Prop} (hq : ∀ e a w, Q e a w → Q' e a w) : ∀ (n : Nat) {a : Act} {w : World}, Code.rounds P c Q n a w → Code.rounds P c Q' n a w
  | 0, _, _, h => h
  | n + 1, a, w, h => by
    rw [rounds_succ] at *
    refine wp_mono h fun e a w g => ?_
    cases e with
    | normal => exact rounds_mono hq n g
    | _ => exact hq _ _ _ g

/-- What is said of the end of a piece. -/
def BEnd (cx : Cx) (κ n : Nat) (fix : Nat → Option Value) (w : World) (Φ : Nat → Prop) (bs : List Nat) (y : (exitsT (cx.bk κ).exits).denote) (ex : Exit) (a' : Act) (w' : World) : Prop :=
  a'.tmps.size = n ∧ (∀ t v, fix t = some v → a'.tmps.getD t undef = v) ∧ a'.defers = [] ∧ ∃ Φ' bs', ExitV w' Φ' ex a' bs' (cx.bk κ).exits y ∧ Post w Φ bs w' Φ' bs'

/-- What is said of a piece's run. -/
def RunOk (cx : Cx) (n κ : Nat) (c : Code) (run : (Exit → Act → World → Prop) → Act → World → Prop) : Prop := ∀ d y, cx.rb κ d = some y → ∀ (w : World) (Φ : Nat → Prop) (a : Act) (bs : List Nat) (fix : Nat → Option Value),
  (∀ t v, fix t = some v → Bound [t] n c = true) → (∀ t v, fix t = some v → a.tmps.getD t undef = v) → a.tmps.size = n → a.defers = [] →
  ShVs w Φ (slotVals a (cx.bk κ).slots) (cx.bk κ).ins d (slotVals a (cx.bk κ).slots) bs → bs.Nodup → (∀ b, b ∈ bs → ¬ Φ b ∧ b < w.heap.size) → (∀ b, Φ b → b < w.heap.size) →
  run (BEnd cx κ n fix w Φ bs y) a w

theorem blkOk_iff {n κ : Nat} {c : Code} : BlkOk P cx n κ c ↔ RunOk cx n κ c (fun Q a w => c.wp P Q a w) := Iff.rfl

theorem packExit_sound {w0 : World} {Φ0 : Nat → Prop} {bs : List Nat} (hr : Rel w0 Φ0 (· ∈ bs) N w Φ β s a) {e : Ex} : ∀ {l : List (Ex × List Nat × List Sh)} {y : (exitsT l).denote}, packExit l e s = some y →
    ∃ Φ' bs', ExitV w Φ' e.toExit a bs' l y ∧ Post w0 Φ0 bs w Φ' bs'
  | [], y, h => by simp [packExit] at h
  | [(e1, slots, shs)], y, h => by
    simp only [packExit] at h
    split at h
    case isFalse => cases h
    rename_i he
    split at h
    case h_2 => cases h
    rename_i vs hvs
    split at h
    case h_2 => cases h
    rename_i d s1 ids hpk
    cases h
    obtain ⟨Φ1, bs1, g1, g2, g3⟩ := packAll_sound hr (lookAll_sound hr hvs) hpk
    exact ⟨Φ1, bs1, ⟨by rw [he], g3⟩, post_of hr g1 g2⟩
  | (e1, slots, shs) :: b :: r, y, h => by
    simp only [packExit] at h
    split at h
    · rename_i he
      split at h
      case h_2 => cases h
      rename_i vs hvs
      split at h
      case h_2 => cases h
      rename_i d s1 ids hpk
      cases h
      obtain ⟨Φ1, bs1, g1, g2, g3⟩ := packAll_sound hr (lookAll_sound hr hvs) hpk
      exact ⟨Φ1, bs1, ⟨by rw [he], g3⟩, post_of hr g1 g2⟩
    · split at h
      case h_2 => cases h
      rename_i d hd
      cases h
      obtain ⟨Φ1, bs1, g1, g2⟩ := packExit_sound hr (l := b :: r) hd
      exact ⟨Φ1, bs1, g1, g2⟩

/-- The beginning of a piece's run. -/
theorem blk_base {n : Nat} {bs : List Nat} {fix : Nat → Option Value} (h1 : ∀ t v, fix t = some v → a.tmps.getD t undef = v) (h2 : a.tmps.size = n) (h3 : a.defers = []) (hflt : ∀ b, Φ b → b < w.heap.size) :
    Rel w Φ (· ∈ bs) ⟨n, fix⟩ w Φ (fun _ => none) .empty a :=
  { env := fun t v h => by cases h
    hp := { ob := fun id o h => by cases h
            lt := fun id x h => by cases h
            hlt := fun id o h => by cases h
            inj := fun id id' o o' b p p' h => by cases h
            blt := fun id b p h => by cases h
            flt := hflt }
    own := fun id o b p h => by cases h
    same := .refl _ _
    fri := fun _ h => h
    fro := fun _ h => .inl h
    size := h2
    fix := h1
    defers := h3 }

theorem tail_sound (hok : AllOk P cx) {n κ : Nat} {c : Code} (hb : Bound [] n c = true) (hh : Hints P cx n lk tk c) {bs : List Nat} {fix : Nat → Option Value} {d : (prods (shCts (cx.bk κ).ins)).denote}
    {y : (exitsT (cx.bk κ).exits).denote} (h : evBlk cx lk tk κ (.tail c) d = some y) (hf : ∀ t v, fix t = some v → Bound [t] n c = true) (h1 : ∀ t v, fix t = some v → a.tmps.getD t undef = v) (h2 : a.tmps.size = n) (h3 : a.defers = [])
    (hsh : ShVs w Φ (slotVals a (cx.bk κ).slots) (cx.bk κ).ins d (slotVals a (cx.bk κ).slots) bs) (hnd : bs.Nodup) (hbs : ∀ b, b ∈ bs → ¬ Φ b ∧ b < w.heap.size) (hflt : ∀ b, Φ b → b < w.heap.size) :
    c.wp P (BEnd cx κ n fix w Φ bs y) a w := by
  have hbase := blk_base (bs := bs) h1 h2 h3 hflt
  obtain ⟨β0, hr0⟩ := mkSt_sound (slots := (cx.bk κ).slots) (shs := (cx.bk κ).ins) (d := d) (bs := bs) hbase hsh hnd (fun b hb => .inl hb)
  refine ev_sound (N := ⟨n, fix⟩) hok c hb hf hh hr0 (fun e s' a' w' Φ' β' hr' h' => ?_) h
  obtain ⟨Φ1, bs1, g1, g2⟩ := packExit_sound hr' h'
  exact ⟨hr'.size, hr'.fix, hr'.defers, Φ1, bs1, g1, g2⟩

/-- One more round of a loop. -/
theorem loop_sound (hok : AllOk P cx) {n κ m id : Nat} {c : Code} (hb : Bound [] n c = true) (hh : Hints P cx n lk tk c)
    (ih : RunOk cx n κ c (fun Q a w => Code.rounds P c (Exit.inBlock id Q) m a w))
    {bs : List Nat} {fix : Nat → Option Value} {d : (prods (shCts (cx.bk κ).ins)).denote}
    {y : (exitsT (cx.bk κ).exits).denote} (h : evBlk cx lk tk κ (.loop id c) d = some y) (hf : ∀ t v, fix t = some v → Bound [t] n c = true) (h1 : ∀ t v, fix t = some v → a.tmps.getD t undef = v) (h2 : a.tmps.size = n) (h3 : a.defers = [])
    (hsh : ShVs w Φ (slotVals a (cx.bk κ).slots) (cx.bk κ).ins d (slotVals a (cx.bk κ).slots) bs) (hnd : bs.Nodup) (hbs : ∀ b, b ∈ bs → ¬ Φ b ∧ b < w.heap.size) (hflt : ∀ b, Φ b → b < w.heap.size) :
    Code.rounds P c (Exit.inBlock id (BEnd cx κ n fix w Φ bs y)) (m + 1) a w := by
  have hbase := blk_base (bs := bs) h1 h2 h3 hflt
  obtain ⟨β0, hr0⟩ := mkSt_sound (slots := (cx.bk κ).slots) (shs := (cx.bk κ).ins) (d := d) (bs := bs) hbase hsh hnd (fun b hb => .inl hb)
  rw [rounds_succ]
  refine ev_sound (N := ⟨n, fix⟩) hok c hb hf hh hr0 (fun e s' a' w' Φ' β' hr' h' => ?_) h
  have out : ∀ {e : Ex}, packExit (cx.bk κ).exits e s' = some y → BEnd cx κ n fix w Φ bs y e.toExit a' w' := fun h' => by
    obtain ⟨Φ1, bs1, g1, g2⟩ := packExit_sound hr' h'
    exact ⟨hr'.size, hr'.fix, hr'.defers, Φ1, bs1, g1, g2⟩
  cases e with
  | ret => exact out (e := .ret) h'
  | out id' =>
    show (if id' = id then BEnd cx κ n fix w Φ bs y .normal a' w' else BEnd cx κ n fix w Φ bs y (.exit id') a' w')
    simp only at h'
    cases hbq : Nat.beq id' id with
    | true => rw [hbq] at h'; rw [if_pos (Nat.eq_of_beq_eq_true hbq)]; exact out (e := .norm) h'
    | false => rw [hbq] at h'; rw [if_neg (fun e => by rw [e, Nat.beq_refl] at hbq; cases hbq)]; exact out (e := .out id') h'
  | norm =>
    simp only at h'
    split at h'
    case h_2 => cases h'
    rename_i vs hvs
    split at h'
    case h_2 => cases h'
    rename_i d' s1 ids hpk
    obtain ⟨Φ1, bs1, g1, g2, g3⟩ := packAll_sound hr' (lookAll_sound hr' hvs) hpk
    have hpost := post_of hr' g1 g2
    show Code.rounds P c (Exit.inBlock id (BEnd cx κ n fix w Φ bs y)) m a' w'
    have := ih d' y h' w' Φ1 a' bs1 fix hf g1.fix g1.size g1.defers g3 hpost.nodup hpost.nf g1.hp.flt
    refine rounds_mono (fun e a w2 g => ?_) m this
    have tr : ∀ {ex a w2}, BEnd cx κ n fix w' Φ1 bs1 y ex a w2 → BEnd cx κ n fix w Φ bs y ex a w2 := fun ⟨k1, k2, k3, Φ2, bs2, k4, k5⟩ => ⟨k1, k2, k3, Φ2, bs2, k4, hpost.trans k5⟩
    cases e with
    | exit id' =>
      simp only [Exit.inBlock] at g ⊢
      split at g
      · rename_i he; rw [if_pos he]; exact tr g
      · rename_i he; rw [if_neg he]; exact tr g
    | _ => exact tr g

end
end Go.Bm
