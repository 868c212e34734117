/-
  OUR OWN: what the interpreter says of a limit, it says of what is near it.
-/
import Derived.Test.YtjphmcfifncgnaaBmNat2
namespace Go.Bm
set_option linter.unusedVariables false
set_option linter.unusedSimpArgs false

/-- From some number on. -/
def Evt (p : Nat → Prop) : Prop := ∃ N, ∀ n, N ≤ n → p n

theorem Evt.all {p : Nat → Prop} (h : ∀ n, p n) : Evt p := ⟨0, fun n _ => h n⟩
theorem Evt.mono {p q : Nat → Prop} (h : Evt p) (g : ∀ n, p n → q n) : Evt q := by obtain ⟨N, h⟩ := h; exact ⟨N, fun n hn => g n (h n hn)⟩
theorem Evt.and {p q : Nat → Prop} (h : Evt p) (g : Evt q) : Evt fun n => p n ∧ q n := by
  obtain ⟨N, h⟩ := h; obtain ⟨M, g⟩ := g
  exact ⟨max N M, fun n hn => ⟨h n (by omega), g n (by omega)⟩⟩

variable {R : Type} {T : Tb} {rfi : T.RF} {rbi : T.RB} {rf : Nat → T.RF} {rb : Nat → T.RB}

def NearF (rfi : T.RF) (rf : Nat → T.RF) : Prop := ∀ f d y, rfi f d = some y → Evt fun n => rf n f d = some y
def NearB (rbi : T.RB) (rb : Nat → T.RB) : Prop := ∀ κ d y, rbi κ d = some y → Evt fun n => rb n κ d = some y

theorem callA_cx (rf rf' : T.RF) (rb rb' : T.RB) (f : Nat) (args : List SVal) (s : St) : callA (T.cx rf rb) f args s = callA (T.cx rf' rb') f args s := by
  unfold callA
  dsimp only [Tb.cx]
  cases packAll (T.fins f) args s with
  | none => rfl
  | some p => rfl

theorem stepK_lim (hf : NearF rfi rf) {o : Oper} {s : St} {ki : St → Option R} {k : Nat → St → Option R} {r : R} (hk : ∀ s', ki s' = some r → Evt fun n => k n s' = some r)
    (h : stepK (T.cx rfi rbi) o s ki = some r) : Evt fun n => stepK (T.cx (rf n) (rb n)) o s (k n) = some r := by
  cases hc : isCall o with
  | none =>
    rw [stepK_nat rfi rfi rbi rbi o s ki hc] at h
    obtain ⟨s', h1, h2⟩ := Option.bind_eq_some_iff.1 h
    exact (hk s' h2).mono fun n hn => by rw [stepK_nat (rf n) rfi (rb n) rbi o s (k n) hc, h1]; exact hn
  | some f =>
    obtain ⟨c, ho, e⟩ := stepK_call (T.cx rfi rbi) hc s ki
    rw [e] at h
    split at h
    case h_2 => cases h
    rename_i vs hvs
    rw [callK_eq] at h
    obtain ⟨p, h1, h2⟩ := Option.bind_eq_some_iff.1 h
    obtain ⟨y, h3, h4⟩ := Option.bind_eq_some_iff.1 h2
    obtain ⟨q, h5, h6⟩ := Option.bind_eq_some_iff.1 h4
    refine ((hf f p.1 y h3).and (hk _ h6)).mono fun n hn => ?_
    obtain ⟨c', ho', e'⟩ := stepK_call (T.cx (rf n) (rb n)) hc s (k n)
    rw [ho] at ho'; cases ho'
    rw [e', hvs]
    show callK (T.cx (rf n) (rb n)) f vs s _ = _
    rw [callK_eq, callA_cx (rf n) rfi (rb n) rbi, h1]
    show ((rf n f p.1).bind _) = _
    rw [hn.1]
    show (p.2 y).bind _ = _
    rw [h5]
    exact hn.2

theorem guardK_lim {b want : Bool} {d : Nat} {dst : Option Nat} {s : St} {yi ni : St → Option R} {y n : Nat → St → Option R} {r : R} (hy : ∀ s', yi s' = some r → Evt fun i => y i s' = some r) (hn : ∀ s', ni s' = some r → Evt fun i => n i s' = some r)
    (h : guardK b want d dst s yi ni = some r) : Evt fun i => guardK b want d dst s (y i) (n i) = some r := by
  cases b <;> cases want <;> first | exact hy _ h | exact hn _ h

theorem evOps_lim (hf : NearF rfi rf) {all : List Oper} {ki : St → Option R} {k : Nat → St → Option R} {r : R} (hk : ∀ s', ki s' = some r → Evt fun n => k n s' = some r) : ∀ (l : List Oper) (s : St),
    evOps (T.cx rfi rbi) all l s ki = some r → Evt fun n => evOps (T.cx (rf n) (rb n)) all l s (k n) = some r
  | [], s, h => hk s h
  | o :: l, s, h => by
    have ih := evOps_lim (all := all) hf hk l
    simp only [evOps] at h ⊢
    have yes : ∀ s', stepK (T.cx rfi rbi) o s' (fun s'' => evOps (T.cx rfi rbi) all l s'' ki) = some r → Evt fun n => stepK (T.cx (rf n) (rb n)) o s' (fun s'' => evOps (T.cx (rf n) (rb n)) all l s'' (k n)) = some r :=
      fun s' h' => stepK_lim (k := fun n s'' => evOps (T.cx (rf n) (rb n)) all l s'' (k n)) hf (fun s'' h'' => ih s'' h'') h'
    cases hg : o.guard with
    | none =>
      rw [hg] at h
      exact (yes s h).mono fun n hn => hn
    | some jw =>
      obtain ⟨j, want⟩ := jw
      rw [hg] at h
      cases hd : (nth all j).bind (·.dst) with
      | none => simp only [hd] at h; cases h
      | some d =>
        simp only [hd] at h ⊢
        cases hl : look s.env d with
        | none => rw [hl] at h; cases h
        | some v =>
          rw [hl] at h
          cases v with
          | one l' =>
            cases l' with
            | bool b =>
              cases b
              · exact guardK_lim (b := false) (y := fun n s => stepK (T.cx (rf n) (rb n)) o s fun s' => evOps (T.cx (rf n) (rb n)) all l s' (k n)) (n := fun n s => evOps (T.cx (rf n) (rb n)) all l s (k n)) yes ih h
              · exact guardK_lim (b := true) (y := fun n s => stepK (T.cx (rf n) (rb n)) o s fun s' => evOps (T.cx (rf n) (rb n)) all l s' (k n)) (n := fun n s => evOps (T.cx (rf n) (rb n)) all l s (k n)) yes ih h
            | _ => cases h
          | skip => exact ih _ h
          | _ => cases h

theorem leaveBlk_lim {ki : Ex → St → Option R} {k : Nat → Ex → St → Option R} {r : R} (hk : ∀ e s', ki e s' = some r → Evt fun n => k n e s' = some r) : ∀ {l : List (Ex × List Nat × List Sh)} {y : (exitsT l).denote},
    leaveBlk l y ki = some r → Evt fun n => leaveBlk l y (k n) = some r
  | [], y, h => by cases h
  | [(e, slots, shs)], y, h => hk _ _ h
  | (e, slots, shs) :: b :: r', y, h => by
    cases y with
    | inl d => exact hk _ _ h
    | inr y' => exact leaveBlk_lim hk (l := b :: r') h

theorem enterBlk_lim (hb : NearB rbi rb) {κ : Nat} {s : St} {ki : Ex → St → Option R} {k : Nat → Ex → St → Option R} {r : R} (hk : ∀ e s', ki e s' = some r → Evt fun n => k n e s' = some r)
    (h : enterBlk (T.cx rfi rbi) κ s ki = some r) : Evt fun n => enterBlk (T.cx (rf n) (rb n)) κ s (k n) = some r := by
  unfold enterBlk at h ⊢
  dsimp only [Tb.cx] at h ⊢
  cases hl : lookAll s.env (T.bk κ).slots with
  | none => rw [hl] at h; cases h
  | some vs =>
    simp only [hl] at h ⊢
    cases hp : packAll (T.bk κ).ins vs s with
    | none => rw [hp] at h; cases h
    | some p =>
      simp only [hp] at h ⊢
      obtain ⟨y, h1, h2⟩ := Option.bind_eq_some_iff.1 h
      exact ((hb κ _ y h1).and (leaveBlk_lim hk h2)).mono fun n hn => by rw [hn.1]; exact hn.2

theorem loopU_lim {bi : St → (Ex → St → Option R) → Option R} {b : Nat → St → (Ex → St → Option R) → Option R} {r : R}
    (hbd : ∀ (ki : Ex → St → Option R) (k : Nat → Ex → St → Option R) (s : St), (∀ e s', ki e s' = some r → Evt fun n => k n e s' = some r) → bi s ki = some r → Evt fun n => b n s (k n) = some r)
    {ki : Ex → St → Option R} {k : Nat → Ex → St → Option R} (hk : ∀ e s', ki e s' = some r → Evt fun n => k n e s' = some r) : ∀ (m : Nat) (s : St), loopU bi m s ki = some r → Evt fun n => loopU (b n) m s (k n) = some r
  | 0, s, h => by cases h
  | m + 1, s, h => by
    simp only [loopU] at h ⊢
    refine hbd _ (fun n e s' => match e with
      | .norm => loopU (b n) m s' (k n)
      | .out id => k n (.out id) s'
      | .ret => k n .ret s') s (fun e s' h' => ?_) h
    cases e with
    | norm => exact loopU_lim hbd hk m s' h'
    | out id => exact hk _ _ h'
    | ret => exact hk _ _ h'

theorem ev_lim (hf : NearF rfi rf) (hb : NearB rbi rb) {lk tk : Nat → Option Nat} {r : R} : ∀ (c : Code) (ki : Ex → St → Option R) (k : Nat → Ex → St → Option R) (s : St), (∀ e s', ki e s' = some r → Evt fun n => k n e s' = some r) →
    ev (T.cx rfi rbi) lk tk c s ki = some r → Evt fun n => ev (T.cx (rf n) (rb n)) lk tk c s (k n) = some r
  | .skip, ki, k, s, hk, h => hk _ _ h
  | .region _ ops false, ki, k, s, hk, h => evOps_lim (k := fun n => k n .norm) hf (fun s' h' => hk _ _ h') _ s h
  | .region _ ops true, ki, k, s, hk, h => by simp [ev] at h
  | .seq a b, ki, k, s, hk, h => by
    simp only [ev] at h ⊢
    refine ev_lim hf hb a _ (fun n e s' => match e with
      | .norm => match (firstRegion b).bind tk with
        | some κ => enterBlk (T.cx (rf n) (rb n)) κ s' (k n)
        | none => ev (T.cx (rf n) (rb n)) lk tk b s' (k n)
      | .out id => k n (.out id) s'
      | .ret => k n .ret s') s (fun e s' h' => ?_) h
    cases e with
    | norm =>
      simp only at h' ⊢
      cases ht : (firstRegion b).bind tk with
      | none => rw [ht] at h'; exact ev_lim hf hb b ki k s' hk h'
      | some κ => rw [ht] at h'; exact enterBlk_lim hb hk h'
    | out id => exact hk _ _ h'
    | ret => exact hk _ _ h'
  | .cond c a b, ki, k, s, hk, h => by
    simp only [ev] at h ⊢
    cases hc : evalO s.env c with
    | none => rw [hc] at h; cases h
    | some v =>
      rw [hc] at h
      cases v with
      | one l =>
        cases l with
        | bool t =>
          cases t
          · exact ev_lim hf hb b ki k s hk h
          · exact ev_lim hf hb a ki k s hk h
        | _ => cases h
      | _ => cases h
  | .block id c, ki, k, s, hk, h => by
    simp only [ev] at h ⊢
    cases hl : lk id with
    | some κ => rw [hl] at h; exact enterBlk_lim hb hk h
    | none =>
      rw [hl] at h
      refine ev_lim hf hb c _ (fun n e s' => match e with
        | .out id' => bif Nat.beq id' id then k n .norm s' else k n (.out id') s'
        | .norm => k n .norm s'
        | .ret => k n .ret s') s (fun e s' h' => ?_) h
      cases e with
      | norm => exact hk _ _ h'
      | ret => exact hk _ _ h'
      | out id' =>
        simp only at h' ⊢
        cases hq : Nat.beq id' id with
        | true => rw [hq] at h'; exact hk _ _ h'
        | false => rw [hq] at h'; exact hk _ _ h'
  | .loop c, ki, k, s, hk, h => loopU_lim (b := fun n => ev (T.cx (rf n) (rb n)) lk tk c) (fun ki k s hk h => ev_lim hf hb c ki k s hk h) hk 16 s h
  | .exit id, ki, k, s, hk, h => hk _ _ h
  | .ret, ki, k, s, hk, h => hk _ _ h
  | .rangeFunc _ _ _ _, ki, k, s, hk, h => by simp [ev] at h
  | .scope _, ki, k, s, hk, h => by simp [ev] at h
  | .label _, ki, k, s, hk, h => by simp [ev] at h
  | .goto _, ki, k, s, hk, h => by simp [ev] at h
  | .refuse _, ki, k, s, hk, h => by simp [ev] at h

theorem resultsOf_cx (rf rf' : T.RF) (rb rb' : T.RB) (s : St) : ∀ (rs : List ResultVar), resultsOf (T.cx rf rb) s rs = resultsOf (T.cx rf' rb') s rs
  | [] => rfl
  | r :: rs => by
    simp only [resultsOf, resultsOf_cx rf rf' rb rb' s rs]
    cases r <;> rfl

theorem evFn_lim (hf : NearF rfi rf) (hb : NearB rbi rb) {lk tk : Nat → Option Nat} {f : Nat} {c : Code} {rs : List ResultVar} {d : (prods (shCts (T.fins f))).denote} {y : (prods (shCts (T.fouts f ++ refs (T.fins f)))).denote}
    (h : evFn (T.cx rfi rbi) lk tk f c rs d = some y) : Evt fun n => evFn (T.cx (rf n) (rb n)) lk tk f c rs d = some y := by
  unfold evFn at h ⊢
  dsimp only [Tb.cx] at h ⊢
  refine ev_lim hf hb c _ _ _ (fun e s' h' => ?_) h
  refine Evt.all fun n => ?_
  cases e with
  | out id => cases h'
  | _ =>
    simp only at h' ⊢
    split at h'
    case h_2 => cases h'
    rename_i vs ps h1 h2
    split at h'
    case h_2 => cases h'
    rename_i y' u v h3
    cases h'
    have h1' : resultsOf (T.cx (rf n) (rb n)) s' rs = some vs := by rw [resultsOf_cx (rf n) rfi (rb n) rbi]; exact h1
    simp only [h1', h2]; rw [h3]

theorem evBlk_lim (hf : NearF rfi rf) (hb : NearB rbi rb) {lk tk : Nat → Option Nat} {κ : Nat} {c : BCode} {d : (prods (shCts (T.bk κ).ins)).denote} {y : (exitsT (T.bk κ).exits).denote}
    (h : evBlk (T.cx rfi rbi) lk tk κ c d = some y) : Evt fun n => evBlk (T.cx (rf n) (rb n)) lk tk κ c d = some y := by
  cases c with
  | tail c =>
    simp only [evBlk] at h ⊢
    exact ev_lim hf hb c _ (fun n e s => packExit (T.bk κ).exits e s) _ (fun e s' h' => Evt.all fun n => h') h
  | loop id c =>
    simp only [evBlk] at h ⊢
    dsimp only [Tb.cx] at h ⊢
    refine ev_lim hf hb c _ _ _ (fun e s' h' => ?_) h
    cases e with
    | ret => exact Evt.all fun n => h'
    | out id' => exact Evt.all fun n => h'
    | norm =>
      simp only at h' ⊢
      cases hl : lookAll s'.env (T.bk κ).slots with
      | none => rw [hl] at h'; cases h'
      | some vs =>
        simp only [hl] at h' ⊢
        cases hp : packAll (T.bk κ).ins vs s' with
        | none => rw [hp] at h'; cases h'
        | some p => simp only [hp] at h' ⊢; exact hb κ _ y h'

end Go.Bm
