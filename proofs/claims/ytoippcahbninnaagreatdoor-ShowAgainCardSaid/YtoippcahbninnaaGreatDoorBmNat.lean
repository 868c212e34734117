/-
  OUR OWN: the interpreter's steps are natural in what follows them.
-/
import Derived.Test.YtoippcahbninnaaGreatDoorBmEval
namespace Go.Bm
set_option linter.unusedVariables false
set_option linter.unusedSimpArgs false

variable {R S : Type}

theorem bif_bind {b : Bool} {x y : Option R} {k : R → Option S} : (bif b then x else y).bind k = bif b then x.bind k else y.bind k := by cases b <;> rfl
theorem bif_nat {b : Bool} {f g : (S → Option R) → Option R} : True := trivial

theorem binK_nat (e : Bool) (td : Option TD) (op : BinOp) (x y : SVal) (k : SVal → Option R) : binK e td op x y k = (binK e td op x y some).bind k := by
  unfold binK
  repeat' split
  all_goals (first | rfl | (simp only [bif_bind, Option.bind_some, Option.bind_none]))

theorem unK_nat (op : UnOp) (x : SVal) (k : SVal → Option R) : unK op x k = (unK op x some).bind k := by
  unfold unK
  split <;> rfl

theorem boundK_nat {A : Type} (lo hi : Option SVal) (len : Nat) (f : Nat → Nat → Option A) (k : A → Option R) : boundK lo hi len (fun a b => (f a b).bind k) = (boundK lo hi len f).bind k := by
  unfold boundK
  split <;> simp only [bif_bind, Option.bind_none]

theorem splitN_nat {A R : Type} (kk : Nat → Option A) (k : A → Option R) : ∀ (n i : Nat), splitN n i (fun j => (kk j).bind k) = (splitN n i kk).bind k
  | 0, i => by simp only [splitN, bif_bind, Option.bind_none]
  | n + 1, i => by simp only [splitN, bif_bind, splitN_nat kk k n i]
theorem cellsN_nat {A R : Type} (s : St) (id n h : Nat) (kk : Nat → Option A) (k : A → Option R) : cellsN s id n h (fun j => (kk j).bind k) = (cellsN s id n h kk).bind k := by
  unfold cellsN
  split
  · exact splitN_nat kk k _ _
  · rfl
theorem cellsN_nat' {R : Type} (s : St) (id n h : Nat) (g : Nat → SVal) (k : SVal → Option R) : cellsN s id n h (fun j => k (g j)) = (cellsN s id n h (fun j => some (g j))).bind k := cellsN_nat s id n h (fun j => some (g j)) k
theorem sliceK_nat (td : TD) (s : St) (x : SVal) (lo hi : Option SVal) (k : SVal → Option R) : sliceK td s x lo hi k = (sliceK td s x lo hi some).bind k := by
  unfold sliceK
  repeat' split
  all_goals (first | rfl | (simp only [bif_bind, ← boundK_nat, Option.bind_some, Option.bind_none]; done) | (simp only [bif_bind, ← boundK_nat, Option.bind_none, ← cellsN_nat, Option.bind_some]))

theorem convK_nat (tab : Nat → Option TD) (td dd : TD) (b : Bool) (s : St) (v : SVal) (k : SVal → St → Option R) : convK tab td dd b s v k = (convK tab td dd b s v fun r s => some (r, s)).bind fun p => k p.1 p.2 := by
  unfold convK
  repeat' split
  all_goals (first | rfl | (simp only [bif_bind, Option.bind_some, Option.bind_none]; done) | (simp only [bif_bind, Option.bind_none]; congr 1; split <;> rfl))

theorem slice3K_nat (td : TD) (x hi mx : SVal) (k : SVal → Option R) : slice3K td x hi mx k = (slice3K td x hi mx some).bind k := by
  unfold slice3K
  split
  · simp only [bif_bind, Option.bind_some, Option.bind_none]
  · rfl

theorem arrK_nat (e : CT) (n : Nat) (agg : Bool) (cs : List Leaf) (j : Int) (k : SVal → Option R) : arrK e n agg cs j k = (arrK e n agg cs j some).bind k := by
  unfold arrK
  split
  · simp only [bif_bind, Option.bind_none, Option.bind_assoc]
    congr 1
    congr 1
    funext x
    split <;> rfl
  · rfl

theorem cutK_nat (td : TD) (cs : List Leaf) (off : Nat) (k : SVal → Option R) : cutK td cs off k = (cutK td cs off some).bind k := by
  unfold cutK
  cases Nat.ble (off + td.size) cs.length
  · rfl
  · simp only [cond_true]; split <;> rfl

theorem loadK_nat (s : St) (td : TD) (a : SVal) (k : SVal → Option R) : loadK s td a k = (loadK s td a some).bind k := by
  unfold loadK
  repeat' split
  all_goals (first | rfl | exact cutK_nat _ _ _ _ | (simp only [Option.bind_assoc]; congr 1; funext x; exact cutK_nat _ _ _ _))

theorem setK_nat (id i : Nat) (e : CT) (y : e.denote) (s : St) (k : St → Option R) : setK id i e y s k = (setK id i e y s some).bind k := by
  unfold setK
  repeat' split
  all_goals (first | rfl | (simp only [bif_bind, Option.bind_some, Option.bind_none]))

theorem storeK_nat (s : St) (td : TD) (a v : SVal) (k : St → Option R) : storeK s td a v k = (storeK s td a v some).bind k := by
  unfold storeK
  repeat' split
  all_goals (first | rfl | (simp only [bif_bind, Option.bind_some, Option.bind_none, Option.bind_assoc]))
  all_goals
    congr 1
    congr 1
    all_goals first
      | rfl
      | (congr 1; exact setK_nat _ _ _ _ _ _)
      | (congr 1; funext x; split <;> first | rfl | exact setK_nat _ _ _ _ _ _)

theorem ptrK_nat (s : St) (id i : Nat) (k : SVal → Option R) : ptrK s id i k = (ptrK s id i some).bind k := by
  unfold ptrK
  split
  · exact splitN_nat (fun i' => some (.one (.ptr id i'))) k _ _
  · rfl
theorem deleteK_nat (td : TD) (s : St) (x i : SVal) (k : St → Option R) : deleteK td s x i k = (deleteK td s x i some).bind k := by
  unfold deleteK
  split
  · split
    · split
      · split
        · simp only [bif_bind, Option.bind_some, Option.bind_none]
        · rfl
      · rfl
    · rfl
  · rfl

theorem indexAddrK_nat (td : TD) (s : St) (x i : SVal) (k : SVal → Option R) : indexAddrK td s x i k = (indexAddrK td s x i some).bind k := by
  unfold indexAddrK
  repeat' split
  all_goals (first | rfl | (simp only [bif_bind, Option.bind_some, Option.bind_none, Option.bind_assoc]; done) | (simp only [bif_bind, Option.bind_none]; rw [← ptrK_nat]))

theorem spliceK_nat (s : St) (id : Nat) (e : CT) (p : Option (Nat × Nat)) (xs : List e.denote) (k : St → Option R) : spliceK s id e p xs k = (spliceK s id e p xs some).bind k := by
  unfold spliceK
  split
  · split
    · simp only [bif_bind, Option.bind_some, Option.bind_none]
    · rfl
  · rfl
theorem appendK_nat (e : CT) (s : St) (x y : SVal) (k : SVal → St → Option R) : appendK e s x y k = (appendK e s x y fun v s => some (v, s)).bind fun p => k p.1 p.2 := by
  unfold appendK
  repeat' split
  all_goals (first | rfl | (simp only [bif_bind, Option.bind_some, Option.bind_none, Option.bind_assoc]))

theorem maxK_nat (k : SVal → Option R) : ∀ (j : IntKind) (a : Int) (l : List SVal), maxK k j a l = (maxK some j a l).bind k
  | j, a, [] => rfl
  | j, a, x :: r => by
    cases x with
    | one l => cases l <;> first | rfl | exact maxK_nat k j _ r
    | _ => rfl
theorem minK_nat (k : SVal → Option R) : ∀ (j : IntKind) (a : Int) (l : List SVal), minK k j a l = (minK some j a l).bind k
  | j, a, [] => rfl
  | j, a, x :: r => by
    cases x with
    | one l => cases l <;> first | rfl | exact minK_nat k j _ r
    | _ => rfl

theorem extractK_nat (x : SVal) (i : Nat) (k : SVal → Option R) : extractK x i k = (extractK x i some).bind k := by
  unfold extractK
  repeat' split
  all_goals rfl
theorem lookupK_nat (td : TD) (s : St) (x i : SVal) (b : Bool) (k : SVal → Option R) : lookupK td s x i b k = (lookupK td s x i b some).bind k := by
  unfold lookupK
  repeat' split
  all_goals rfl

theorem updateK_nat (td : TD) (s : St) (x i y : SVal) (k : St → Option R) : updateK td s x i y k = (updateK td s x i y some).bind k := by
  unfold updateK
  split
  · simp only [bif_bind, Option.bind_none]
    congr 1
    repeat' split
    all_goals first | rfl | simp only [bif_bind, Option.bind_some, Option.bind_none]
  · rfl

theorem takeK_nat (s : St) (id : Nat) (o : SObj) (e : CT) (row : List e.denote) (k : SVal → St → Option R) : takeK s id o e row k = (takeK s id o e row fun v s => some (v, s)).bind fun p => k p.1 p.2 := by
  unfold takeK
  simp only [bif_bind, Option.bind_some, Option.bind_none]
theorem loadS_nat (s : St) (td : TD) (a : SVal) (k : SVal → St → Option R) : loadS s td a k = (loadS s td a fun v s => some (v, s)).bind fun p => k p.1 p.2 := by
  have hl : loadK s td a (fun r => k r s) = (loadK s td a fun r => some (r, s)).bind fun p => k p.1 p.2 := by
    rw [loadK_nat]
    conv => rhs; rw [loadK_nat]
    simp only [Option.bind_assoc, Option.bind_some]
  unfold loadS
  split
  · split
    · split
      · split
        · simp only [Option.bind_assoc]
          congr 1
          funext x
          exact takeK_nat _ _ _ _ _ _
        · rfl
      · rfl
    · exact hl
  · exact hl
theorem rowK_nat (s : St) (e : CT) (v : SVal) (k : Nat → List e.denote → Option R) : rowK s e v k = (rowK s e v fun i r => some (i, r)).bind fun p => k p.1 p.2 := by
  unfold rowK
  repeat' split
  all_goals (first | rfl | simp only [bif_bind, Option.bind_some, Option.bind_none])
theorem storeS_nat (s : St) (td : TD) (a v : SVal) (k : St → Option R) : storeS s td a v k = (storeS s td a v some).bind k := by
  unfold storeS
  split
  · split
    · split
      · rw [rowK_nat]
        conv => rhs; rw [rowK_nat]
        simp only [Option.bind_assoc, bif_bind, Option.bind_some, Option.bind_none]
      · rfl
    · exact storeK_nat _ _ _ _ _
  · exact storeK_nat _ _ _ _ _
theorem lookupS_nat (td : TD) (s : St) (x i : SVal) (b : Bool) (k : SVal → St → Option R) : lookupS td s x i b k = (lookupS td s x i b fun v s => some (v, s)).bind fun p => k p.1 p.2 := by
  have hl : lookupK td s x i b (fun r => k r s) = (lookupK td s x i b fun r => some (r, s)).bind fun p => k p.1 p.2 := by
    rw [lookupK_nat]
    conv => rhs; rw [lookupK_nat]
    simp only [Option.bind_assoc, Option.bind_some]
  unfold lookupS
  split
  · split
    · split
      · split
        · split
          · exact takeK_nat _ _ _ _ _ _
          · rfl
        · rfl
      · rfl
    · exact hl
  · exact hl
theorem updateS_nat (td : TD) (s : St) (x i y : SVal) (k : St → Option R) : updateS td s x i y k = (updateS td s x i y some).bind k := by
  unfold updateS
  split
  · split
    · split
      · split
        · split
          · rw [rowK_nat]
            conv => rhs; rw [rowK_nat]
            simp only [Option.bind_assoc, bif_bind, Option.bind_some, Option.bind_none]
          · rfl
        · rfl
      · rfl
    · exact updateK_nat _ _ _ _ _ _
  · exact updateK_nat _ _ _ _ _ _

theorem fieldAddrK_nat (td : TD) (x : SVal) (i : Nat) (k : SVal → Option R) : fieldAddrK td x i k = (fieldAddrK td x i some).bind k := by
  unfold fieldAddrK
  repeat' split
  all_goals rfl
theorem fieldK_nat (td : TD) (x : SVal) (i : Nat) (k : SVal → Option R) : fieldK td x i k = (fieldK td x i some).bind k := by
  unfold fieldK
  repeat' split
  all_goals rfl

end Go.Bm
