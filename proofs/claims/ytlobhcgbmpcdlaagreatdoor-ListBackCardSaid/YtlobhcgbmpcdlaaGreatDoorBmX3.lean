import Derived.Test.YtlobhcgbmpcdlaaGreatDoorBmOk
import Derived.IntWalk
import Derived.Lib.ItoaNum
import Derived.Lib.LaidTab
section
namespace Go.Bm
theorem agree_swap {A B R : Type} (x : Option A) (y : Option B) (k : A → B → Option R) : agree (x.bind fun a => y.bind fun b => k a b) (y.bind fun b => x.bind fun a => k a b) = x.bind fun a => y.bind fun b => k a b := by
 cases x <;> cases y <;> simp only [Option.bind_some, Option.bind_none, agree_self]
theorem Tbl.approx {T : Tbl} {g : T.RF → T.RB → T.RF} {k : T.RF → T.RB → T.RB} (hg : ∀ rf rb φ d y, g rf rb φ d = some y → T.stepF rf rb φ d = some y) (hk : ∀ rf rb κ d y, k rf rb κ d = some y → T.stepB rf rb κ d = some y)
  {G : Nat → T.RF × T.RB} (h0 : G 0 = (fun _ _ => none, fun _ _ => none)) (hs : ∀ n, G (n + 1) = (g (G n).1 (G n).2, k (G n).1 (G n).2)) :
  ∀ n, (∀ φ d y, (G n).1 φ d = some y → T.rf φ d = some y) ∧ ∀ κ d y, (G n).2 κ d = some y → T.rb κ d = some y
 | 0 => by
   rw [h0]
   exact ⟨fun _ _ _ h => (by cases h), fun _ _ _ h => (by cases h)⟩
 | n + 1 => by
   obtain ⟨ih1, ih2⟩ := Tbl.approx hg hk h0 hs n
   have hf : NearF (G n).1 fun _ => T.rf := fun f d y h => Evt.all fun _ => ih1 f d y h
   have hb : NearB (G n).2 fun _ => T.rb := fun f d y h => Evt.all fun _ => ih2 f d y h
   rw [hs n]
   refine ⟨fun φ d y h => T.rf_of ?_, fun κ d y h => T.rb_of ?_⟩
   · have h := hg _ _ _ _ _ h
     unfold Tbl.stepF at h ⊢
     cases hf' : T.fn φ with
     | none => simp only [hf'] at h ⊢; exact h
     | some fn =>
       simp only [hf'] at h ⊢
       cases hc : fn.body with
       | none => rw [hc] at h; cases h
       | some c =>
         simp only [hc] at h ⊢
         obtain ⟨N, hN⟩ := evFn_lim hf hb h
         exact hN N (Nat.le_refl _)
   · have h := hk _ _ _ _ _ h
     unfold Tbl.stepB at h ⊢
     cases hc : T.codeAt κ with
     | none => rw [hc] at h; cases h
     | some p =>
       simp only [hc] at h ⊢
       obtain ⟨N, hN⟩ := evBlk_lim hf hb h
       exact hN N (Nat.le_refl _)
end Go.Bm
end
section
namespace Go.Bm
set_option linter.unusedVariables false
set_option linter.unusedSimpArgs false
theorem wr {x : Int} (h : -9223372036854775808 ≤ x ∧ x ≤ 9223372036854775807) : IntKind.i64.wrap x = x := IntWalk.i64_in x h
theorem wr_succ {i : Nat} (h : i < 4611686018427387904) : IntKind.i64.wrap ((i : Int) + 1) = ((i + 1 : Nat) : Int) := by rw [wr (by omega)]; omega
theorem wr_pred {i : Nat} (h : i < 4611686018427387904) : IntKind.i64.wrap ((i : Int) - 1) = (i : Int) - 1 := wr (by omega)
theorem inb_nat (i n : Nat) : inb (i : Int) n = decide (i < n) := by
 cases h : inb (i : Int) n
 · have : ¬ (inb (i : Int) n = true) := by rw [h]; decide
   rw [inb_iff] at this
   exact (decide_eq_false (by omega)).symm
 · rw [inb_iff] at h; exact (decide_eq_true (by omega)).symm
theorem inb'_nat (i n : Nat) : inb' (i : Int) n = decide (i ≤ n) := by
 cases h : inb' (i : Int) n
 · have : ¬ (inb' (i : Int) n = true) := by rw [h]; decide
   rw [inb'_iff] at this
   exact (decide_eq_false (by omega)).symm
 · rw [inb'_iff] at h; exact (decide_eq_true (by omega)).symm
theorem inb_t {x : Int} {n : Nat} (h : 0 ≤ x) (h2 : x < n) : inb x n = true := inb_iff.2 ⟨h, h2⟩
theorem inb'_t {x : Int} {n : Nat} (h : 0 ≤ x) (h2 : x ≤ n) : inb' x n = true := inb'_iff.2 ⟨h, h2⟩
theorem ble_t {a b : Nat} (h : a ≤ b) : Nat.ble a b = true := Nat.ble_eq_true_of_le h
theorem blt_t {a b : Nat} (h : a < b) : Nat.blt a b = true := by rw [Nat.blt_eq]; exact h
theorem ble_most {a : Nat} (h : a ≤ 274877906944) : Nat.ble a most = true := ble_t h
theorem dt {p : Prop} [Decidable p] (h : p) : decide p = true := decide_eq_true h
theorem df {p : Prop} [Decidable p] (h : ¬ p) : decide p = false := decide_eq_false h
theorem bt {a b : Int} (h : a = b) : (a == b) = true := beq_iff_eq.2 h
theorem bf {a b : Int} (h : a ≠ b) : (a == b) = false := beq_eq_false_iff_ne.2 h
theorem nbt {a b : Int} (h : a = b) : (a != b) = false := by rw [bne, bt h]; rfl
theorem nbf {a b : Int} (h : a ≠ b) : (a != b) = true := by rw [bne, bf h]; rfl
theorem setNth_set {α : Type} : ∀ (l : List α) (i : Nat) (y : α), setNth l i y = l.set i y
 | [], _, _ => rfl
 | _ :: _, 0, _ => rfl
 | x :: l, i + 1, y => by simp [setNth, setNth_set l i y]
theorem sub_zero {α : Type} (l : List α) (n : Nat) : sub l (some (0, n)) = l.take n := rfl
section
variable {α : Type}
theorem nth_t {l : List α} {i : Nat} (h : i < l.length) : nth l i = some l[i] := by rw [nth_getElem?]; exact List.getElem?_eq_getElem h
theorem nth_mid (pre : List α) (x : α) (suf : List α) : nth (pre ++ x :: suf) (pre.length : Int).toNat = some x := by
 rw [nth_getElem?, Int.toNat_natCast]; simp
theorem inb_mid (pre : List α) (x : α) (suf : List α) : inb (pre.length : Int) (pre ++ x :: suf).length = true := by rw [inb_nat]; exact dt (by simp)
theorem lt_mid (pre : List α) (x : α) (suf : List α) : decide ((pre.length : Int) < ((pre ++ x :: suf).length : Nat)) = true := dt (by simp; omega)
theorem lt_end (pre : List α) : decide ((pre.length : Int) < ((pre ++ []).length : Nat)) = false := df (by simp)
theorem lt_self (n : Nat) : decide ((n : Int) < (n : Int)) = false := df (by omega)
theorem next_mid (pre : List α) (x : α) (h : pre.length < 4611686018427387904) : IntKind.i64.wrap ((pre.length : Int) + 1) = ((pre ++ [x]).length : Nat) := by rw [wr_succ h]; simp
end
theorem last_i {α : Type} {l : List α} (h : l ≠ []) (h2 : l.length < 4611686018427387904) : IntKind.i64.wrap ((l.length : Int) - 1) = ((l.length - 1 : Nat) : Int) := by
 have : 0 < l.length := List.length_pos_iff.2 h
 rw [wr (by omega)]; omega
abbrev Nd : Type := Int × Int × Int × Int × Int × List UInt8
instance decNd : DecidableEq Nd := @instDecidableEqProd Int (Int × Int × Int × Int × List UInt8) inferInstance inferInstance
instance decNds : DecidableEq (List Nd) := @instDecidableEqList Nd decNd
def kids (n : Nd) : List Int :=
 if n.1 = 26 then [n.2.1, n.2.2.1, n.2.2.2.1] else
 if n.1 = 28 ∧ n.2.2.1 ≠ -1 then [n.2.2.1, n.2.1] else
 if n.1 = 27 ∧ n.2.1 = -1 then [] else
 if 6 ≤ n.1 ∧ n.1 ≤ 20 then [n.2.1, n.2.2.1] else
 if n.1 = 4 ∨ n.1 = 5 ∨ (21 ≤ n.1 ∧ n.1 ≤ 28) then [n.2.1] else []
def aim (n : Nd) : List Int → Nd
 | [] => n
 | [a] => (n.1, a, n.2.2)
 | [a, b] => if n.1 = 28 then (n.1, b, a, n.2.2.2) else (n.1, a, b, n.2.2.2)
 | a :: b :: c :: _ => (n.1, a, b, c, n.2.2.2.2)
def mostN (op : Int) : Int := if op = 1 then 2147483647 else if op = 2 then 1 else if op = 25 then 1000 else 0
def nodeB (n : Nd) : Bool := decide (1 ≤ n.1 ∧ n.1 ≤ 28 ∧ n = aim (n.1, -1, -1, -1, n.2.2.2.2) (kids n) ∧ 0 ≤ n.2.2.2.2.1 ∧ n.2.2.2.2.1 ≤ mostN n.1 ∧ (n.2.2.2.2.2 ≠ [] ↔ (n.1 = 3 ∨ n.1 = 27)))
def shift (by_ : Int) (x : Int) : Int := if 0 ≤ x then IntKind.i64.wrap (x + by_) else x
def mv (by_ : Int) (n : Nd) : Nd := (n.1, shift by_ n.2.1, shift by_ n.2.2.1, shift by_ n.2.2.2.1, n.2.2.2.2)
def place {α : Type} [DecidableEq α] (x : α) : List α → Nat → Option Nat
 | [], _ => none
 | y :: r, i => if x = y then some i else place x r (i + 1)
theorem kids_len (n : Nd) : (kids n).length ≤ 3 := by
 unfold kids; repeat' split
 all_goals simp
def partB (c : UInt8) : Bool := (Nat.ble 97 c.toNat && Nat.ble c.toNat 122) || Nat.beq c.toNat 95 || (Nat.ble 48 c.toNat && Nat.ble c.toNat 57)
def rowX : List UInt8 → List UInt8
 | [] => []
 | c :: r => bif partB c then c :: rowX r else []
def joinR : List (Int × List UInt8 × Int) → List UInt8
 | [] => []
 | x :: r => 32 :: (x.2.1 ++ joinR r)
def joinX : List (Int × List UInt8 × Int) → List UInt8
 | [] => []
 | x :: r => x.2.1 ++ joinR r
def digX : Nat → Nat → List UInt8 → List UInt8
 | 0, _, l => l
 | k + 1, n, l => bif Nat.blt n 10 then UInt8.ofNat (48 + n) :: l else digX k (n / 10) (UInt8.ofNat (48 + n % 10) :: l)
def fits64 (n : Int) : Bool := decide (-9223372036854775808 ≤ n) && decide (n ≤ 9223372036854775807)
def itoaX (n : Int) : List UInt8 := match n with
 | .ofNat k => digX 20 k []
 | .negSucc k => 45 :: digX 20 (k + 1) []
theorem digX_dec : ∀ (k n : Nat) (l : List UInt8), n < 10 ^ (k + 1) → digX (k + 1) n l = Lib.decDigits n ++ l := by
 have one : ∀ (k n : Nat) (l : List UInt8), n < 10 → digX (k + 1) n l = Lib.decDigits n ++ l := fun k n l hn => by
  unfold digX
  rw [Lib.decDigits]
  have : Nat.blt n 10 = true := by rw [Nat.blt_eq]; exact hn
  rw [this, dif_pos hn]; rfl
 intro k
 induction k with
 | zero => intro n l h; exact one 0 n l (by simpa using h)
 | succ k ih =>
   intro n l h
   by_cases hn : n < 10
   · exact one _ n l hn
   · have : Nat.blt n 10 = false := by
      cases hb : Nat.blt n 10 with
      | false => rfl
      | true => rw [Nat.blt_eq] at hb; exact absurd hb hn
     rw [digX, Lib.decDigits, this, dif_neg hn, cond_false, ih (n / 10) _ (by rw [Nat.pow_succ] at h; omega)]
     simp
theorem itoaX_eq {n : Int} (h0 : -9223372036854775808 ≤ n) (h1 : n ≤ 9223372036854775807) : itoaX n = Lib.itoa n := by
 cases n with
 | ofNat k =>
   have h2 : ¬ ((Int.ofNat k : Int) < 0) := by simp
   rw [Lib.itoa, if_neg h2]
   show digX 20 k [] = _
   rw [digX_dec 19 k [] (by have : k ≤ 9223372036854775807 := by { have := h1; simp at this; omega }; omega)]
   simp
 | negSucc k =>
   have h2 : (Int.negSucc k : Int) < 0 := Int.negSucc_lt_zero k
   rw [Lib.itoa, if_pos h2]
   show 45 :: digX 20 (k + 1) [] = _
   rw [digX_dec 19 (k + 1) [] (by have : (k : Int) + 1 ≤ 9223372036854775808 := by { have := h0; rw [Int.negSucc_eq] at this; omega }; omega)]
   simp
def wordsX : List (List UInt8) := [[97, 110, 100], [97, 115, 115, 117, 109, 101], [98, 111, 111, 108], [99, 111, 110, 116, 114, 97, 99, 116], [100, 105, 118], [101, 108, 115, 101], [101, 110, 100], [101, 110, 115, 117, 114, 101], [102, 97, 108, 108, 98, 97, 99, 107], [102, 97, 108, 115, 101], [103, 104, 111, 115, 116], [103, 117, 97, 114, 97, 110, 116, 101, 101], [104, 105, 115, 116], [105, 102], [105, 109, 112, 111, 114, 116], [105, 110, 116], [108, 101, 116], [109, 97, 105, 110], [109, 111, 100], [109, 111, 100, 101], [110, 111, 100, 101], [110, 111, 116], [111, 110, 99, 101], [111, 114], [112, 114, 101], [112, 114, 101, 118], [114, 101, 113, 117, 105, 114, 101], [114, 101, 116, 117, 114, 110, 115], [115, 105, 110, 99, 101], [116, 101, 108], [116, 104, 101, 110], [116, 114, 117, 101], [118, 97, 114], [119, 105, 116, 104, 105, 110], [120, 111, 114]]
def pkgG (P : Program) (g0 g1 : Nat) (w : World) (Φ : Nat → Prop) : Prop :=
 GvR (look [(g0, (⟨.list .str, wordsX⟩ : Dyn))]) w Φ ∧ Φ g1 ∧ P.globalNamed "internal/strconv.uint64pow10" = some g1 ∧ Lib.TabIs P w "internal/strconv.uint64pow10" .u64 Lib.pow10Tab
theorem GvR.mono {gv : Nat → Option Dyn} {w w' : World} {Φ Φ' : Nat → Prop} (h1 : ∀ b, Φ b → w'.heap[b]? = w.heap[b]?) (h2 : ∀ b, Φ b → Φ' b) (h : GvR gv w Φ) : GvR gv w' Φ' := fun g d hg => by
 obtain ⟨k1, us, k2, k3⟩ := h g d hg
 exact ⟨h2 g k1, us, cellsAt_of_heap (h1 g k1) _ _ k2, VC_mono h1 h2 _ _ _ k3⟩
theorem pkgG_mono (P : Program) (g0 g1 : Nat) : GpMono (pkgG P g0 g1) := fun w w' Φ Φ' h1 h2 ⟨k1, k2, k3, k4⟩ => by
 refine ⟨k1.mono h1 h2, h2 _ k2, k3, ?_⟩
 unfold Lib.TabIs World.var? at *
 rw [k3] at k4 ⊢
 simp only [Option.bind_some] at *
 rw [h1 g1 k2]
 exact k4
section
variable {w w' : World} {Φ : Nat → Prop} {γ : Loc}
theorem ext_done {T T' : Tm} {ds ds' : List Dyn} {vs rs : List Value} (ho : T.objs = []) (ho' : T'.objs = []) (hi : InstR w Φ T ds vs γ) (hs : RowKit.Below w.heap.size w w') (hv : SVRs w' Φ (fun _ => none) [] (instSls T'.slots ds').1 rs) :
  InstR w' Φ T' ds' rs (fun _ => none) ∧ PostR w Φ γ T ds w' Φ (fun _ => none) T' ds' := by
 have h1 : T'.heap ds' = [] := by simp [Tm.heap, ho', instObs]
 have h2 : T'.vals ds' = (instSls T'.slots ds').1 := by simp [Tm.vals, ho', instObs]
 have hsame : Same w (OwnH w γ (T.heap ds)) w' := ⟨hs.os, hs.tape, hs.output, hs.size, fun b hb _ => hs.block b hb⟩
 refine ⟨⟨by rw [h1, h2]; exact hv, ?_⟩, hsame, fun b hb => ?_, fun b h => h, fun b h => .inl h, fun k hk => ?_⟩
 · rw [h1]
   exact ⟨fun _ _ h => (by cases h), fun _ _ h => (by cases h), fun _ _ h => (by cases h), fun _ _ _ _ _ _ _ h => (by cases h), fun _ _ _ h => (by cases h), fun b h => Nat.lt_of_lt_of_le (hi.hp.flt b h) hs.size, fun _ _ _ h => (by cases h), fun _ _ _ _ _ h => (by cases h)⟩
 · rcases hb with ⟨id, ob, p, h, _⟩ | ⟨id, ob, h, _⟩ <;> (rw [h1] at h; cases h)
 · obtain ⟨o, h⟩ := hk
   rw [ho] at h; cases h
end
end Go.Bm
end
