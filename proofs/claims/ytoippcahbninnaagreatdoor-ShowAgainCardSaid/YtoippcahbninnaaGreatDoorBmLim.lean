/-
  OUR OWN: what the interpreter says of a limit, it says of what is near it.
-/
import Derived.Test.YtoippcahbninnaaGreatDoorBmNat2
import Derived.Test.YtoippcahbninnaaGreatDoorBmStep1
namespace Go.Bm
set_option linter.unusedVariables false
set_option linter.unusedSimpArgs false

/-- From some number on. -/
def Evt (p : Nat → Prop) : Prop := ∃ N, ∀ n, N ≤ n → p n

theorem Evt.all {p : Nat → Prop} (h : ∀ n, p n) : Evt p := ⟨0, fun n _ => h n⟩
theorem Evt.mono {p q : Nat → Prop} (h : Evt p) (g : ∀ n, p n → q n) : Evt q := by obtain ⟨N, h⟩ := h; exact ⟨N, fun n hn => g n (h n hn)⟩
theorem Evt.and {p q : Nat → Prop} (h : Evt p) (g : Evt q) : Evt fun n => p n ∧ q n := by
  obtain ⟨N, h⟩ := h; obtain ⟨M, g⟩ := g
  exact ⟨max N M, fun n hn => ⟨h n (by omega), g n (by omega)⟩⟩

variable {R : Type} {T : Tb} {rfi : T.RF} {rbi : T.RB} {rf : Nat → T.RF} {rb : Nat → T.RB}

def NearF (rfi : T.RF) (rf : Nat → T.RF) : Prop := ∀ f d y, rfi f d = some y → Evt fun n => rf n f d = some y
def NearB (rbi : T.RB) (rb : Nat → T.RB) : Prop := ∀ κ d y, rbi κ d = some y → Evt fun n => rb n κ d = some y

theorem leaveF_lim {T' : Tm} {ρ : Rho} {s : St} {ki : SVal → St → Option R} {k : Nat → SVal → St → Option R} {r : R} (hk : ∀ v s', ki v s' = some r → Evt fun n => k n v s' = some r) : ∀ {l : List Tm} {y : (outsT l).denote},
    leaveF T' ρ s l y ki = some r → Evt fun n => leaveF T' ρ s l y (k n) = some r
  | [], y, h => by cases h
  | [T2], y, h => by
    simp only [leaveF] at h ⊢
    cases hv : resultVal (backVals T' ρ T2 (fromD T2.cts y) s) with
    | none => rw [hv] at h; cases h
    | some v => rw [hv] at h; exact hk _ _ h
  | T2 :: b :: r', .inl y, h => by
    simp only [leaveF] at h ⊢
    cases hv : resultVal (backVals T' ρ T2 (fromD T2.cts y) s) with
    | none => rw [hv] at h; cases h
    | some v => rw [hv] at h; exact hk _ _ h
  | T2 :: b :: r', .inr y, h => by
    simp only [leaveF] at h ⊢
    exact leaveF_lim hk (l := b :: r') h

theorem leaveN_lim {s : St} {ki : SVal → St → Option R} {k : Nat → SVal → St → Option R} {r : R} (hk : ∀ v s', ki v s' = some r → Evt fun n => k n v s' = some r) : ∀ {l : List Tm} {y : (outsT l).denote},
    leaveN s l y ki = some r → Evt fun n => leaveN s l y (k n) = some r
  | [], y, h => by cases h
  | [T2], y, h => by
    simp only [leaveN] at h ⊢
    cases hb : T2.objs.isEmpty && (T2.vals (fromD T2.cts y)).all SVal.flat with
    | false => rw [hb] at h; cases h
    | true =>
      rw [hb] at h
      cases hv : resultVal (T2.vals (fromD T2.cts y)) with
      | none => rw [hv] at h; cases h
      | some v => rw [hv] at h; exact hk _ _ h
  | T2 :: b :: r', .inl y, h => by
    simp only [leaveN] at h ⊢
    cases hb : T2.objs.isEmpty && (T2.vals (fromD T2.cts y)).all SVal.flat with
    | false => rw [hb] at h; cases h
    | true =>
      rw [hb] at h
      cases hv : resultVal (T2.vals (fromD T2.cts y)) with
      | none => rw [hv] at h; cases h
      | some v => rw [hv] at h; exact hk _ _ h
  | T2 :: b :: r', .inr y, h => by
    simp only [leaveN] at h ⊢
    exact leaveN_lim hk (l := b :: r') h

theorem callTry_lim (hf : NearF rfi rf) {args : List SVal} {s : St} {ki : SVal → St → Option R} {k : Nat → SVal → St → Option R} {r : R} (hk : ∀ v s', ki v s' = some r → Evt fun n => k n v s' = some r) : ∀ (l : List Nat),
    callTry (T.cx rfi rbi) args s ki l = some r → Evt fun n => callTry (T.cx (rf n) (rb n)) args s (k n) l = some r
  | [], h => by cases h
  | φ :: l, h => by
    simp only [callTry] at h ⊢
    dsimp only [Tb.cx] at h ⊢
    cases hp : packIn (T.kin φ) args s with
    | none => rw [hp] at h; exact callTry_lim hf hk l h
    | some p =>
      obtain ⟨d, ρ, s1⟩ := p
      rw [hp] at h
      obtain ⟨y, h1, h2⟩ := Option.bind_eq_some_iff.1 h
      cases hl : T.lend φ with
      | false =>
        rw [hl] at h2
        exact ((hf φ d y h1).and (leaveF_lim hk h2)).mono fun n hn => by simp only [hn.1, Option.bind_some, cond_false]; exact hn.2
      | true =>
        rw [hl] at h2
        cases hb : (T.kin φ).objs.isEmpty with
        | false => rw [hb] at h2; cases h2
        | true =>
          rw [hb] at h2
          exact ((hf φ d y h1).and (leaveN_lim hk h2)).mono fun n hn => by simp only [hn.1, Option.bind_some, cond_true]; exact hn.2

theorem callK_lim (hf : NearF rfi rf) {v : SVal} {args : List SVal} {s : St} {ki : SVal → St → Option R} {k : Nat → SVal → St → Option R} {r : R} (hk : ∀ v s', ki v s' = some r → Evt fun n => k n v s' = some r)
    (h : callK (T.cx rfi rbi) v args s ki = some r) : Evt fun n => callK (T.cx (rf n) (rb n)) v args s (k n) = some r := by
  unfold callK at h ⊢
  split at h
  · exact callTry_lim hf hk _ h
  · cases h

theorem invokeK_lim (hf : NearF rfi rf) {name : String} {v : SVal} {args : List SVal} {s : St} {ki : SVal → St → Option R} {k : Nat → SVal → St → Option R} {r : R} (hk : ∀ v s', ki v s' = some r → Evt fun n => k n v s' = some r)
    (h : invokeK (T.cx rfi rbi) name v args s ki = some r) : Evt fun n => invokeK (T.cx (rf n) (rb n)) name v args s (k n) = some r := by
  unfold invokeK at h ⊢
  split at h
  · rename_i t id off
    dsimp only [Tb.cx] at h ⊢
    cases hm : T.mt t name with
    | none => rw [hm] at h; cases h
    | some p =>
      obtain ⟨f, how⟩ := p
      cases how with
      | none =>
        rw [hm] at h
        exact callTry_lim hf hk _ h
      | some q =>
        obtain ⟨ty, o⟩ := q
        rw [hm] at h
        simp only at h ⊢
        cases ht : T.tab ty with
        | none => rw [ht] at h; cases h
        | some td =>
          rw [ht] at h
          simp only at h ⊢
          rw [loadK_nat] at h
          obtain ⟨x, h1, h2⟩ := Option.bind_eq_some_iff.1 h
          refine (callTry_lim (rb := rb) hf hk _ h2).mono fun n hn => ?_
          rw [loadK_nat, h1]
          exact hn
  · cases h

theorem callX_lim (hf : NearF rfi rf) {m : Option String} {v : SVal} {args : List SVal} {s : St} {ki : SVal → St → Option R} {k : Nat → SVal → St → Option R} {r : R} (hk : ∀ v s', ki v s' = some r → Evt fun n => k n v s' = some r)
    (h : callX (T.cx rfi rbi) m v args s ki = some r) : Evt fun n => callX (T.cx (rf n) (rb n)) m v args s (k n) = some r := by
  cases m with
  | none => exact callK_lim hf hk h
  | some name => exact invokeK_lim hf hk h

theorem stepK_lim (hf : NearF rfi rf) {o : Oper} {s : St} {ki : St → Option R} {k : Nat → St → Option R} {r : R} (hk : ∀ s', ki s' = some r → Evt fun n => k n s' = some r)
    (h : stepK (T.cx rfi rbi) o s ki = some r) : Evt fun n => stepK (T.cx (rf n) (rb n)) o s (k n) = some r := by
  cases hc : isCall o with
  | none =>
    rw [stepK_nat rfi rfi rbi rbi o s ki hc] at h
    obtain ⟨s', h1, h2⟩ := Option.bind_eq_some_iff.1 h
    exact (hk s' h2).mono fun n hn => by rw [stepK_nat (rf n) rfi (rb n) rbi o s (k n) hc, h1]; exact hn
  | some f =>
    obtain ⟨c, ho, e⟩ := stepK_call (T.cx rfi rbi) hc s ki
    rw [e] at h
    split at h
    case h_2 => cases h
    rename_i v vs hv hvs
    refine (callX_lim (rb := rb) (k := fun n r s' => k n (s'.set o.dst r)) hf (fun v s' h' => hk _ h') h).mono fun n hn => ?_
    obtain ⟨c', ho', e'⟩ := stepK_call (T.cx (rf n) (rb n)) hc s (k n)
    rw [ho] at ho'; cases ho'
    rw [e', hv, hvs]
    exact hn

theorem guardK_lim {b want : Bool} {d : Nat} {dst : Option Nat} {s : St} {yi ni : St → Option R} {y n : Nat → St → Option R} {r : R} (hy : ∀ s', yi s' = some r → Evt fun i => y i s' = some r) (hn : ∀ s', ni s' = some r → Evt fun i => n i s' = some r)
    (h : guardK b want d dst s yi ni = some r) : Evt fun i => guardK b want d dst s (y i) (n i) = some r := by
  cases b <;> cases want <;> first | exact hy _ h | exact hn _ h

theorem evOps_lim (hf : NearF rfi rf) {all : List Oper} {ki : St → Option R} {k : Nat → St → Option R} {r : R} (hk : ∀ s', ki s' = some r → Evt fun n => k n s' = some r) : ∀ (l : List Oper) (s : St),
    evOps (T.cx rfi rbi) all l s ki = some r → Evt fun n => evOps (T.cx (rf n) (rb n)) all l s (k n) = some r
  | [], s, h => hk s h
  | o :: l, s, h => by
    have ih := evOps_lim (all := all) hf hk l
    simp only [evOps] at h ⊢
    have yes : ∀ s', stepK (T.cx rfi rbi) o s' (fun s'' => evOps (T.cx rfi rbi) all l s'' ki) = some r → Evt fun n => stepK (T.cx (rf n) (rb n)) o s' (fun s'' => evOps (T.cx (rf n) (rb n)) all l s'' (k n)) = some r :=
      fun s' h' => stepK_lim (k := fun n s'' => evOps (T.cx (rf n) (rb n)) all l s'' (k n)) hf (fun s'' h'' => ih s'' h'') h'
    cases hg : o.guard with
    | none =>
      rw [hg] at h
      exact (yes s h).mono fun n hn => hn
    | some jw =>
      obtain ⟨j, want⟩ := jw
      rw [hg] at h
      cases hd : (nth all j).bind (·.dst) with
      | none => simp only [hd] at h; cases h
      | some d =>
        simp only [hd] at h ⊢
        cases hl : look s.env d with
        | none => rw [hl] at h; cases h
        | some v =>
          rw [hl] at h
          cases v with
          | one l' =>
            cases l' with
            | bool b =>
              cases b
              · exact guardK_lim (b := false) (y := fun n s => stepK (T.cx (rf n) (rb n)) o s fun s' => evOps (T.cx (rf n) (rb n)) all l s' (k n)) (n := fun n s => evOps (T.cx (rf n) (rb n)) all l s (k n)) yes ih h
              · exact guardK_lim (b := true) (y := fun n s => stepK (T.cx (rf n) (rb n)) o s fun s' => evOps (T.cx (rf n) (rb n)) all l s' (k n)) (n := fun n s => evOps (T.cx (rf n) (rb n)) all l s (k n)) yes ih h
            | _ => cases h
          | skip => exact ih _ h
          | _ => cases h

theorem evOp1_lim (hf : NearF rfi rf) {all : List Oper} {o : Oper} {s : St} {ki : St → Option R} {k : Nat → St → Option R} {r : R} (hk : ∀ s', ki s' = some r → Evt fun n => k n s' = some r)
    (h : evOp1 (T.cx rfi rbi) all o s ki = some r) : Evt fun n => evOp1 (T.cx (rf n) (rb n)) all o s (k n) = some r := by
  unfold evOp1 at h ⊢
  cases hg : o.guard with
  | none => rw [hg] at h; exact stepK_lim hf hk h
  | some jw =>
    obtain ⟨j, want⟩ := jw
    rw [hg] at h
    cases hd : (nth all j).bind (·.dst) with
    | none => simp only [hd] at h; cases h
    | some d =>
      simp only [hd] at h ⊢
      cases hl : look s.env d with
      | none => rw [hl] at h; cases h
      | some v =>
        rw [hl] at h
        cases v with
        | one l' =>
          cases l' with
          | bool b =>
            cases b
            · exact guardK_lim (b := false) (y := fun n s => stepK (T.cx (rf n) (rb n)) o s (k n)) (n := fun n s => k n s) (fun s' h' => stepK_lim hf hk h') hk h
            · exact guardK_lim (b := true) (y := fun n s => stepK (T.cx (rf n) (rb n)) o s (k n)) (n := fun n s => k n s) (fun s' h' => stepK_lim hf hk h') hk h
          | _ => cases h
        | skip => exact hk _ h
        | _ => cases h

theorem stepT_lim (hf : NearF rfi rf) {o : Oper} {s : St} {ki : St → Option R} {k : Nat → St → Option R} {r : R} (hk : ∀ s', ki s' = some r → Evt fun n => k n s' = some r)
    (h : stepT (T.cx rfi rbi) o s ki = some r) : Evt fun n => stepT (T.cx (rf n) (rb n)) o s (k n) = some r := by
  unfold stepT at h ⊢
  cases hs : stableOp o s with
  | false => rw [hs] at h; cases h
  | true => rw [hs] at h; exact stepK_lim hf hk h

theorem evOpT_lim (hf : NearF rfi rf) {all : List Oper} {o : Oper} {s : St} {ki : St → Option R} {k : Nat → St → Option R} {r : R} (hk : ∀ s', ki s' = some r → Evt fun n => k n s' = some r)
    (h : evOpT (T.cx rfi rbi) all o s ki = some r) : Evt fun n => evOpT (T.cx (rf n) (rb n)) all o s (k n) = some r := by
  unfold evOpT at h ⊢
  cases hg : o.guard with
  | none => rw [hg] at h; exact stepT_lim hf hk h
  | some jw =>
    obtain ⟨j, want⟩ := jw
    rw [hg] at h
    cases hd : (nth all j).bind (·.dst) with
    | none => simp only [hd] at h; cases h
    | some d =>
      simp only [hd] at h ⊢
      cases hl : look s.env d with
      | none => rw [hl] at h; cases h
      | some v =>
        rw [hl] at h
        cases v with
        | one l' =>
          cases l' with
          | bool b =>
            cases b
            · exact guardK_lim (b := false) (y := fun n s => stepT (T.cx (rf n) (rb n)) o s (k n)) (n := fun n s => k n s) (fun s' h' => stepT_lim hf hk h') hk h
            · exact guardK_lim (b := true) (y := fun n s => stepT (T.cx (rf n) (rb n)) o s (k n)) (n := fun n s => k n s) (fun s' h' => stepT_lim hf hk h') hk h
          | _ => cases h
        | skip => exact hk _ h
        | _ => cases h

theorem agree_of {x y : Option R} {r : R} (h1 : x = some r) (h2 : y = some r) : agree x y = some r := by rw [h1, h2, agree_self]

theorem evOrd_lim (hf : NearF rfi rf) {all : List Oper} {ki : St → Option R} {k : Nat → St → Option R} {r : R} (hk : ∀ s', ki s' = some r → Evt fun n => k n s' = some r) : ∀ (t : OrdT) (s : St),
    evOrd (T.cx rfi rbi) all t s ki = some r → Evt fun n => evOrd (T.cx (rf n) (rb n)) all t s (k n) = some r
  | .done, s, h => hk s h
  | .take i t, s, h => by
    simp only [evOrd] at h ⊢
    cases ho : nth all i with
    | none => rw [ho] at h; cases h
    | some o =>
      rw [ho] at h
      exact evOpT_lim (k := fun n s' => evOrd (T.cx (rf n) (rb n)) all t s' (k n)) hf (fun s' h' => evOrd_lim hf hk t s' h') h
  | .only i t, s, h => by
    simp only [evOrd] at h ⊢
    cases ho : nth all i with
    | none => rw [ho] at h; cases h
    | some o =>
      rw [ho] at h
      obtain ⟨hrf, h⟩ := cond_none h
      simp only [hrf, cond_true]
      exact evOp1_lim (k := fun n s' => evOrd (T.cx (rf n) (rb n)) all t s' (k n)) hf (fun s' h' => evOrd_lim hf hk t s' h') h
  | .alt i t q, s, h => by
    simp only [evOrd] at h ⊢
    cases ho : nth all i with
    | none => rw [ho] at h; cases h
    | some o =>
      rw [ho] at h
      obtain ⟨hrf, h⟩ := cond_none h
      simp only [hrf, cond_true]
      obtain ⟨h1, h2⟩ := agree_some h
      exact ((evOp1_lim (k := fun n s' => evOrd (T.cx (rf n) (rb n)) all t s' (k n)) hf (fun s' h' => evOrd_lim hf hk t s' h') h1).and (evOrd_lim hf hk q s h2)).mono fun n hn => agree_of hn.1 hn.2

theorem leaveBlk_lim {T' : Tm} {ρ : Rho} {keep : List Nat} {s : St} {ki : Ex → St → Option R} {k : Nat → Ex → St → Option R} {r : R} (hk : ∀ e s', ki e s' = some r → Evt fun n => k n e s' = some r) : ∀ {l : List (Ex × List Nat × Tm)} {y : (exitsT l).denote},
    leaveBlk T' ρ keep s l y ki = some r → Evt fun n => leaveBlk T' ρ keep s l y (k n) = some r
  | [], y, h => by cases h
  | [(e, slots, T2)], y, h => hk _ _ h
  | (e, slots, T2) :: b :: r', .inl y, h => hk _ _ h
  | (e, slots, T2) :: b :: r', .inr y, h => leaveBlk_lim hk (l := b :: r') h

theorem enterBlk_lim (hb : NearB rbi rb) {κ : Nat} {s : St} {ki : Ex → St → Option R} {k : Nat → Ex → St → Option R} {r : R} (hk : ∀ e s', ki e s' = some r → Evt fun n => k n e s' = some r)
    (h : enterBlk (T.cx rfi rbi) κ s ki = some r) : Evt fun n => enterBlk (T.cx (rf n) (rb n)) κ s (k n) = some r := by
  unfold enterBlk at h ⊢
  dsimp only [Tb.cx] at h ⊢
  cases hl : lookAll s.env (T.bk κ).slots with
  | none => rw [hl] at h; cases h
  | some vs =>
    simp only [hl] at h ⊢
    cases hp : packIn (T.bk κ).ins vs s with
    | none => rw [hp] at h; cases h
    | some p =>
      obtain ⟨d, ρ, s1⟩ := p
      simp only [hp] at h ⊢
      obtain ⟨y, h1, h2⟩ := Option.bind_eq_some_iff.1 h
      exact ((hb κ _ y h1).and (leaveBlk_lim hk h2)).mono fun n hn => by rw [hn.1]; exact hn.2

theorem loopU_lim {bi : St → (Ex → St → Option R) → Option R} {b : Nat → St → (Ex → St → Option R) → Option R} {r : R}
    (hbd : ∀ (ki : Ex → St → Option R) (k : Nat → Ex → St → Option R) (s : St), (∀ e s', ki e s' = some r → Evt fun n => k n e s' = some r) → bi s ki = some r → Evt fun n => b n s (k n) = some r)
    {ki : Ex → St → Option R} {k : Nat → Ex → St → Option R} (hk : ∀ e s', ki e s' = some r → Evt fun n => k n e s' = some r) : ∀ (m : Nat) (s : St), loopU bi m s ki = some r → Evt fun n => loopU (b n) m s (k n) = some r
  | 0, s, h => by cases h
  | m + 1, s, h => by
    simp only [loopU] at h ⊢
    refine hbd _ (fun n e s' => match e with
      | .norm => loopU (b n) m s' (k n)
      | .out id => k n (.out id) s'
      | .ret => k n .ret s') s (fun e s' h' => ?_) h
    cases e with
    | norm => exact loopU_lim hbd hk m s' h'
    | out id => exact hk _ _ h'
    | ret => exact hk _ _ h'

theorem ev_lim (hf : NearF rfi rf) (hb : NearB rbi rb) {H : Hn} {r : R} : ∀ (c : Code) (ki : Ex → St → Option R) (k : Nat → Ex → St → Option R) (s : St), (∀ e s', ki e s' = some r → Evt fun n => k n e s' = some r) →
    ev (T.cx rfi rbi) H c s ki = some r → Evt fun n => ev (T.cx (rf n) (rb n)) H c s (k n) = some r
  | .skip, ki, k, s, hk, h => hk _ _ h
  | .region _ ops false, ki, k, s, hk, h => evOps_lim (k := fun n => k n .norm) hf (fun s' h' => hk _ _ h') _ s h
  | .region id ops true, ki, k, s, hk, h => by
    simp only [ev] at h ⊢
    cases hd : H.dk id with
    | none => rw [hd] at h; cases h
    | some p =>
      obtain ⟨slots, t⟩ := p
      rw [hd] at h
      exact evOrd_lim (k := fun n s' => k n .norm { s' with hold := [] }) hf (fun s' h' => hk _ _ h') t _ h
  | .seq a b, ki, k, s, hk, h => by
    simp only [ev] at h ⊢
    refine ev_lim hf hb a _ (fun n e s' => match e with
      | .norm => match (firstRegion b).bind H.tk with
        | some κ => enterBlk (T.cx (rf n) (rb n)) κ s' (k n)
        | none => ev (T.cx (rf n) (rb n)) H b s' (k n)
      | .out id => k n (.out id) s'
      | .ret => k n .ret s') s (fun e s' h' => ?_) h
    cases e with
    | norm =>
      simp only at h' ⊢
      cases ht : (firstRegion b).bind H.tk with
      | none => rw [ht] at h'; exact ev_lim hf hb b ki k s' hk h'
      | some κ => rw [ht] at h'; exact enterBlk_lim hb hk h'
    | out id => exact hk _ _ h'
    | ret => exact hk _ _ h'
  | .cond c a b, ki, k, s, hk, h => by
    simp only [ev] at h ⊢
    cases hc : evalO s.env c with
    | none => rw [hc] at h; cases h
    | some v =>
      rw [hc] at h
      cases v with
      | one l =>
        cases l with
        | bool t =>
          cases t
          · exact ev_lim hf hb b ki k s hk h
          · exact ev_lim hf hb a ki k s hk h
        | anyb =>
          obtain ⟨h1, h2⟩ := agree_some h
          refine ((ev_lim hf hb a ki k s hk h1).and (ev_lim hf hb b ki k s hk h2)).mono fun n hn => ?_
          show agree _ _ = some r
          rw [hn.1, hn.2]; exact agree_self _
        | _ => cases h
      | _ => cases h
  | .block id c, ki, k, s, hk, h => by
    simp only [ev] at h ⊢
    cases hl : H.lk id with
    | some κ => rw [hl] at h; exact enterBlk_lim hb hk h
    | none =>
      rw [hl] at h
      refine ev_lim hf hb c _ (fun n e s' => match e with
        | .out id' => bif Nat.beq id' id then k n .norm s' else k n (.out id') s'
        | .norm => k n .norm s'
        | .ret => k n .ret s') s (fun e s' h' => ?_) h
      cases e with
      | norm => exact hk _ _ h'
      | ret => exact hk _ _ h'
      | out id' =>
        simp only at h' ⊢
        cases hq : Nat.beq id' id with
        | true => rw [hq] at h'; exact hk _ _ h'
        | false => rw [hq] at h'; exact hk _ _ h'
  | .loop c, ki, k, s, hk, h => loopU_lim (b := fun n => ev (T.cx (rf n) (rb n)) H c) (fun ki k s hk h => ev_lim hf hb c ki k s hk h) hk 16 s h
  | .exit id, ki, k, s, hk, h => hk _ _ h
  | .ret, ki, k, s, hk, h => hk _ _ h
  | .rangeFunc _ _ _ _, ki, k, s, hk, h => by simp [ev] at h
  | .scope _, ki, k, s, hk, h => by simp [ev] at h
  | .label _, ki, k, s, hk, h => by simp [ev] at h
  | .goto _, ki, k, s, hk, h => by simp [ev] at h
  | .refuse _, ki, k, s, hk, h => by simp [ev] at h

theorem resultsOf_cx (rf rf' : T.RF) (rb rb' : T.RB) (s : St) : ∀ (rs : List ResultVar), resultsOf (T.cx rf rb) s rs = resultsOf (T.cx rf' rb') s rs
  | [] => rfl
  | r :: rs => by
    simp only [resultsOf, resultsOf_cx rf rf' rb rb' s rs]
    cases r <;> rfl

theorem evFn_lim (hf : NearF rfi rf) (hb : NearB rbi rb) {H : Hn} {φ : Nat} {c : Code} {rs : List ResultVar} {d : (T.kin φ).ct.denote} {y : (outsT (T.kouts φ)).denote}
    (h : evFn (T.cx rfi rbi) H φ c rs d = some y) : Evt fun n => evFn (T.cx (rf n) (rb n)) H φ c rs d = some y := by
  unfold evFn at h ⊢
  dsimp only [Tb.cx] at h ⊢
  refine ev_lim hf hb c _ _ _ (fun e s' h' => ?_) h
  refine Evt.all fun n => ?_
  cases e with
  | out id => cases h'
  | _ =>
    simp only at h' ⊢
    split at h'
    case h_2 => cases h'
    rename_i vs h1
    have h1' : resultsOf (T.cx (rf n) (rb n)) s' rs = some vs := by rw [resultsOf_cx (rf n) rfi (rb n) rbi]; exact h1
    simp only [h1']; exact h'

theorem evBlk_lim (hf : NearF rfi rf) (hb : NearB rbi rb) {H : Hn} {κ : Nat} {c : BCode} {d : (T.bk κ).ins.ct.denote} {y : (exitsT (T.bk κ).exits).denote}
    (h : evBlk (T.cx rfi rbi) H κ c d = some y) : Evt fun n => evBlk (T.cx (rf n) (rb n)) H κ c d = some y := by
  cases c with
  | tail c =>
    simp only [evBlk] at h ⊢
    exact ev_lim hf hb c _ (fun n e s => packExit (stayRho 0 (T.bk κ).ins.objs) (T.bk κ).exits e s) _ (fun e s' h' => Evt.all fun n => h') h
  | loop id c =>
    simp only [evBlk] at h ⊢
    dsimp only [Tb.cx] at h ⊢
    refine ev_lim hf hb c _ _ _ (fun e s' h' => ?_) h
    cases e with
    | ret => exact Evt.all fun n => h'
    | out id' => exact Evt.all fun n => h'
    | norm =>
      simp only at h' ⊢
      cases hl : lookAll s'.env (T.bk κ).slots with
      | none => rw [hl] at h'; cases h'
      | some vs =>
        simp only [hl] at h' ⊢
        cases hp : packD (T.bk κ).ins (stayRho 0 (T.bk κ).ins.objs) vs s' with
        | none =>
          simp only [hp] at h' ⊢
          cases ha : H.al κ with
          | none => rw [ha] at h'; cases h'
          | some κ2 =>
            simp only [ha] at h' ⊢
            exact enterBlk_lim (T := T) (k := fun _ e' s' => packExit (stayRho 0 (T.bk κ).ins.objs) (T.bk κ).exits e' s') hb (fun e s' h'' => Evt.all fun n => h'') h'
        | some p =>
          obtain ⟨d', ρ, s1⟩ := p
          simp only [hp] at h' ⊢
          exact hb κ _ y h'

end Go.Bm
