import Derived.Test.YtlobhcgbmpcdlaaGreatDoorBmEval
import Derived.Test.YtlobhcgbmpcdlaaGreatDoorBmStep1
section
open Option (bind_some)
namespace Go.Bm
set_option linter.unusedVariables false
set_option linter.unusedSimpArgs false
variable {R S : Type}
theorem bif_bind {b : Bool} {x y : Option R} {k : R → Option S} : (bif b then x else y).bind k = bif b then x.bind k else y.bind k := by cases b <;> rfl
theorem binK_nat (e : Bool) (td : Option TD) (op : BinOp) (x y : SVal) (k : SVal → Option R) : binK e td op x y k = (binK e td op x y some).bind k := by
 unfold binK
 repeat' split
 all_goals (first | rfl | (simp only [bif_bind, bind_some, Option.bind_none]))
theorem unK_nat (op : UnOp) (x : SVal) (k : SVal → Option R) : unK op x k = (unK op x some).bind k := by
 unfold unK
 split <;> rfl
theorem boundK_nat {A : Type} (lo hi : Option SVal) (len : Nat) (f : Nat → Nat → Option A) (k : A → Option R) : boundK lo hi len (fun a b => (f a b).bind k) = (boundK lo hi len f).bind k := by
 unfold boundK
 split <;> simp only [bif_bind, Option.bind_none]
theorem splitN_nat {A R : Type} (kk : Nat → Option A) (k : A → Option R) : ∀ (n i : Nat), splitN n i (fun j => (kk j).bind k) = (splitN n i kk).bind k
 | 0, i => by simp only [splitN, bif_bind, Option.bind_none]
 | n + 1, i => by simp only [splitN, bif_bind, splitN_nat kk k n i]
theorem cellsN_nat {A R : Type} (s : St) (id n h : Nat) (kk : Nat → Option A) (k : A → Option R) : cellsN s id n h (fun j => (kk j).bind k) = (cellsN s id n h kk).bind k := by
 unfold cellsN
 split
 · exact splitN_nat kk k _ _
 · rfl
theorem sliceK_nat (td : TD) (s : St) (x : SVal) (lo hi : Option SVal) (k : SVal → Option R) : sliceK td s x lo hi k = (sliceK td s x lo hi some).bind k := by
 unfold sliceK
 repeat' split
 all_goals (first | rfl | (simp only [bif_bind, ← boundK_nat, bind_some, Option.bind_none]; done) | (simp only [bif_bind, ← boundK_nat, Option.bind_none, ← cellsN_nat, bind_some]))
theorem convK_nat (tab : Nat → Option TD) (td dd : TD) (b : Bool) (s : St) (v : SVal) (k : SVal → St → Option R) : convK tab td dd b s v k = (convK tab td dd b s v fun r s => some (r, s)).bind fun p => k p.1 p.2 := rfl
theorem slice3K_nat (td : TD) (x hi mx : SVal) (k : SVal → Option R) : slice3K td x hi mx k = (slice3K td x hi mx some).bind k := by
 unfold slice3K
 split
 · simp only [bif_bind, bind_some, Option.bind_none]
 · rfl
theorem arrK_nat (e : CT) (n : Nat) (agg : Bool) (cs : List Leaf) (j : Int) (k : SVal → Option R) : arrK e n agg cs j k = (arrK e n agg cs j some).bind k := by
 unfold arrK
 split
 · simp only [bif_bind, Option.bind_none, Option.bind_assoc]
   congr 1
   congr 1
   funext x
   split <;> rfl
 · rfl
theorem cutK_nat (td : TD) (cs : List Leaf) (off : Nat) (k : SVal → Option R) : cutK td cs off k = (cutK td cs off some).bind k := by
 unfold cutK
 cases Nat.ble (off + td.size) cs.length
 · rfl
 · simp only [cond_true]; split <;> rfl
theorem loadK_nat (s : St) (td : TD) (a : SVal) (k : SVal → Option R) : loadK s td a k = (loadK s td a some).bind k := by
 unfold loadK
 repeat' split
 all_goals (first | rfl | exact cutK_nat _ _ _ _ | (simp only [Option.bind_assoc]; congr 1; funext x; exact cutK_nat _ _ _ _) | (simp only [bif_bind, Option.bind_none]; congr 1; exact cutK_nat _ _ _ _))
theorem setK_nat (id i : Nat) (e : CT) (y : e.denote) (s : St) (k : St → Option R) : setK id i e y s k = (setK id i e y s some).bind k := by
 unfold setK
 repeat' split
 all_goals (first | rfl | (simp only [bif_bind, bind_some, Option.bind_none]))
theorem storeA_nat (s : St) (td : TD) (id i off : Nat) (e : CT) (l : List e.denote) (vs : List Leaf) (k : St → Option R) : storeA s td id i off e l vs k = (storeA s td id i off e l vs some).bind k := by
 unfold storeA
 repeat' split
 all_goals (first | rfl | (simp only [bif_bind, bind_some, Option.bind_none, Option.bind_assoc]))
 all_goals
  congr 1
  congr 1
  all_goals first
   | rfl
   | (congr 1; exact setK_nat _ _ _ _ _ _)
   | (congr 1; funext x; split <;> first | rfl | exact setK_nat _ _ _ _ _ _)
theorem storeK_nat (s : St) (td : TD) (a v : SVal) (k : St → Option R) : storeK s td a v k = (storeK s td a v some).bind k := by
 unfold storeK
 repeat' split
 all_goals (first | rfl | (simp only [bif_bind, bind_some, Option.bind_none, Option.bind_assoc]; done) | (simp only [bif_bind, bind_some, Option.bind_none, Option.bind_assoc]; rw [← storeA_nat]))
theorem ptrK_nat (s : St) (id i : Nat) (k : SVal → Option R) : ptrK s id i k = (ptrK s id i some).bind k := by
 unfold ptrK
 split
 · exact splitN_nat (fun i' => some (.one (.ptr id i'))) k _ _
 · rfl
theorem deleteK_nat (td : TD) (s : St) (x i : SVal) (k : St → Option R) : deleteK td s x i k = (deleteK td s x i some).bind k := by
 rfl
theorem indexAddrK_nat (td : TD) (s : St) (x i : SVal) (k : SVal → Option R) : indexAddrK td s x i k = (indexAddrK td s x i some).bind k := by
 unfold indexAddrK
 repeat' split
 all_goals (first | rfl | (simp only [bif_bind, bind_some, Option.bind_none, Option.bind_assoc]; done) | (simp only [bif_bind, Option.bind_none]; rw [← ptrK_nat]))
theorem spliceK_nat (s : St) (id : Nat) (e : CT) (p : Option (Nat × Nat)) (xs : List e.denote) (k : St → Option R) : spliceK s id e p xs k = (spliceK s id e p xs some).bind k := by
 rfl
theorem appendK_nat (e : CT) (s : St) (x y : SVal) (k : SVal → St → Option R) : appendK e s x y k = (appendK e s x y fun v s => some (v, s)).bind fun p => k p.1 p.2 := by
 unfold appendK
 repeat' split
 all_goals (first | rfl | (simp only [bif_bind, bind_some, Option.bind_none, Option.bind_assoc]))
theorem maxK_nat (k : SVal → Option R) : ∀ (j : IntKind) (a : Int) (l : List SVal), maxK k j a l = (maxK some j a l).bind k
 | j, a, [] => rfl
 | j, a, x :: r => by
   cases x with
   | one l => cases l <;> first | rfl | exact maxK_nat k j _ r
   | _ => rfl
theorem minK_nat (k : SVal → Option R) : ∀ (j : IntKind) (a : Int) (l : List SVal), minK k j a l = (minK some j a l).bind k
 | j, a, [] => rfl
 | j, a, x :: r => by
   cases x with
   | one l => cases l <;> first | rfl | exact minK_nat k j _ r
   | _ => rfl
theorem extractK_nat (x : SVal) (i : Nat) (k : SVal → Option R) : extractK x i k = (extractK x i some).bind k := by
 unfold extractK
 repeat' split
 all_goals rfl
theorem loadS_nat (s : St) (td : TD) (a : SVal) (k : SVal → St → Option R) : loadS s td a k = (loadS s td a fun v s => some (v, s)).bind fun p => k p.1 p.2 := by
 have hl : loadK s td a (fun r => k r s) = (loadK s td a fun r => some (r, s)).bind fun p => k p.1 p.2 := by
  rw [loadK_nat]
  conv => rhs; rw [loadK_nat]
  simp only [Option.bind_assoc, bind_some]
 exact hl
theorem storeS_nat (s : St) (td : TD) (a v : SVal) (k : St → Option R) : storeS s td a v k = (storeS s td a v some).bind k := by
 exact storeK_nat _ _ _ _ _
theorem lookupS_nat (td : TD) (s : St) (x i : SVal) (b : Bool) (k : SVal → St → Option R) : lookupS td s x i b k = (lookupS td s x i b fun v s => some (v, s)).bind fun p => k p.1 p.2 := by
 rfl
theorem updateS_nat (td : TD) (s : St) (x i y : SVal) (k : St → Option R) : updateS td s x i y k = (updateS td s x i y some).bind k := by
 rfl
theorem fieldAddrK_nat (td : TD) (x : SVal) (i : Nat) (k : SVal → Option R) : fieldAddrK td x i k = (fieldAddrK td x i some).bind k := by
 unfold fieldAddrK
 repeat' split
 all_goals rfl
theorem fieldK_nat (td : TD) (x : SVal) (i : Nat) (k : SVal → Option R) : fieldK td x i k = (fieldK td x i some).bind k := by
 unfold fieldK
 repeat' split
 all_goals rfl
end Go.Bm
end
section
open Option (bind_some)
namespace Go.Bm
set_option linter.unusedVariables false
set_option linter.unusedSimpArgs false
structure Tb where
 tab : Nat → Option TD
 eqt : Nat → Bool
 keys : Nat → List Nat
 lend : Nat → Bool
 mkr : Nat → Bool
 mt : Nat → String → Option (Nat × Option (Nat × Nat))
 gp : World → (Nat → Prop) → Prop
 gv : Nat → Option Dyn
 kin : Nat → Tm
 kouts : Nat → List Tm
 bk : Nat → Blk
abbrev Tb.RF (T : Tb) : Type := (φ : Nat) → (T.kin φ).ct.denote → Option (outsT (T.kouts φ)).denote
abbrev Tb.RB (T : Tb) : Type := (κ : Nat) → (T.bk κ).ins.ct.denote → Option (exitsT (T.bk κ).exits).denote
abbrev Tb.cx (T : Tb) (rf : T.RF) (rb : T.RB) : Cx := ⟨T.tab, T.eqt, T.keys, T.lend, T.mkr, T.mt, T.gp, T.gv, T.kin, T.kouts, T.bk, rf, rb⟩
variable {R A : Type} {T : Tb}
theorem nat' {X : (A → Option R) → Option R} {X' : (A → Option St) → Option St} {Y : Option A} (h : ∀ k, X k = Y.bind k) (h' : ∀ k, X' k = Y.bind k) (g : A → St) (k : St → Option R) :
  X (fun r => k (g r)) = (X' fun r => some (g r)).bind k := by
 rw [h, h', Option.bind_assoc]; rfl
def isCall (o : Oper) : Option (Option String × Operand) := match o.op with
 | .call c => match c.callee with
   | .value f => some (none, f)
   | .invoke x name => some (some name, x)
   | _ => none
 | _ => none
def callX (cx : Cx) : Option String → SVal → List SVal → St → (SVal → St → Option R) → Option R
 | none => callK cx
 | some name => invokeK cx name
theorem nat2 {X : (A → St → Option R) → Option R} {X' : (A → St → Option St) → Option St} {Y : Option (A × St)} (h : ∀ k, X k = Y.bind fun p => k p.1 p.2) (h' : ∀ k, X' k = Y.bind fun p => k p.1 p.2) (g : A → St → St) (k : St → Option R) :
  X (fun r s => k (g r s)) = (X' fun r s => some (g r s)).bind k := by
 rw [h, h', Option.bind_assoc]; rfl
theorem stepK_nat (rf rf' : T.RF) (rb rb' : T.RB) (o : Oper) (s : St) (k : St → Option R) (hc : isCall o = none) : stepK (T.cx rf rb) o s k = (stepK (T.cx rf' rb') o s some).bind k := by
 unfold stepK
 dsimp only [Tb.cx]
 split
 · split <;> rfl
 · split <;> rfl
 · repeat' split
   all_goals (first | rfl | simp only [bif_bind, bind_some, Option.bind_none])
   all_goals (congr 1 <;> split <;> rfl)
 · split <;> rfl
 · repeat' split
   all_goals (first | rfl | simp only [bif_bind, bind_some, Option.bind_none])
 · repeat' split
   all_goals rfl
 · repeat' split
   all_goals (first | rfl | (simp only [bif_bind, bind_some, Option.bind_none]; done) | (simp only [bif_bind, bind_some, Option.bind_none]; congr 1; (repeat' split) <;> rfl))
 · split
   · split
     · exact nat' (fun k => loadK_nat _ _ _ k) (fun k => loadK_nat _ _ _ k) _ k
     · rfl
   · split
     · exact nat2 (fun k => loadS_nat _ _ _ k) (fun k => loadS_nat _ _ _ k) _ k
     · rfl
 · split
   · exact nat' (fun k => storeS_nat _ _ _ _ k) (fun k => storeS_nat _ _ _ _ k) _ k
   · rfl
 · split <;> rfl
 · split
   · exact nat' (fun k => binK_nat _ _ _ _ _ k) (fun k => binK_nat _ _ _ _ _ k) _ k
   · rfl
 · split
   · exact nat' (fun k => unK_nat _ _ k) (fun k => unK_nat _ _ k) _ k
   · rfl
 · split
   · rfl
   · rfl
   · exact nat2 (fun k => convK_nat _ _ _ _ _ _ k) (fun k => convK_nat _ _ _ _ _ _ k) _ k
   · rfl
 · repeat' split
   all_goals (first | rfl | simp only [bif_bind, bind_some, Option.bind_none])
 · split
   · split
     · exact nat' (fun k => sliceK_nat _ _ _ _ _ k) (fun k => sliceK_nat _ _ _ _ _ k) _ k
     · rfl
   · rfl
 · split
   · exact nat' (fun k => slice3K_nat _ _ _ _ k) (fun k => slice3K_nat _ _ _ _ k) _ k
   · rfl
 · split
   · exact nat' (fun k => fieldAddrK_nat _ _ _ k) (fun k => fieldAddrK_nat _ _ _ k) _ k
   · rfl
 · split
   · exact nat' (fun k => fieldK_nat _ _ _ k) (fun k => fieldK_nat _ _ _ k) _ k
   · rfl
 · split
   · exact nat' (fun k => indexAddrK_nat _ _ _ _ k) (fun k => indexAddrK_nat _ _ _ _ k) _ k
   · rfl
 · split
   · simp only [bif_bind, bind_some, Option.bind_none, Option.bind_assoc]
   · exact nat' (fun k => arrK_nat _ _ _ _ _ k) (fun k => arrK_nat _ _ _ _ _ k) _ k
   · rfl
 · split
   · exact nat' (fun k => extractK_nat _ _ k) (fun k => extractK_nat _ _ k) _ k
   · rfl
 · split <;> rfl
 · split
   · exact nat2 (fun k => lookupS_nat _ _ _ _ _ k) (fun k => lookupS_nat _ _ _ _ _ k) _ k
   · rfl
 · split
   · exact nat' (fun k => updateS_nat _ _ _ _ _ k) (fun k => updateS_nat _ _ _ _ _ k) _ k
   · rfl
 · split
   · exact nat' (fun k => updateS_nat _ _ _ _ _ k) (fun k => updateS_nat _ _ _ _ _ k) _ k
   · rfl
 · split <;> rfl
 · rename_i c ho
   split
   · repeat' split
     all_goals rfl
   · split
     · cases Nat.beq _ _
       · rfl
       · simp only [cond_true]
         split
         · simp only [bif_bind]
           congr 1
           rw [appendK_nat]
           conv => rhs; rw [appendK_nat]
           simp only [Option.bind_assoc, bind_some, Option.bind_none]
         · rfl
     · rfl
   · split
     · split
       · exact nat' (fun k => spliceK_nat _ _ _ _ _ k) (fun k => spliceK_nat _ _ _ _ _ k) _ k
       · rfl
     · rfl
   · split
     · split
       · exact nat' (fun k => deleteK_nat _ _ _ _ k) (fun k => deleteK_nat _ _ _ _ k) _ k
       · rfl
     · rfl
   · split
     · split
       · simp only [bif_bind, Option.bind_none]
         congr 1
         split
         · exact nat' (fun k => spliceK_nat _ _ _ _ _ k) (fun k => spliceK_nat _ _ _ _ _ k) _ k
         · rfl
       · rfl
     · rfl
   · split
     · exact nat' (fun k => maxK_nat k _ _ _) (fun k => maxK_nat k _ _ _) _ k
     · rfl
   · split
     · exact nat' (fun k => minK_nat k _ _ _) (fun k => minK_nat k _ _ _) _ k
     · rfl
   · rename_i f hf
     simp [isCall, ho, hf] at hc
   · rename_i x nm hf
     simp [isCall, ho, hf] at hc
   · rfl
 · split <;> rfl
 · split
   · simp only [bif_bind, bind_some, Option.bind_none]
   · rfl
 · rfl
theorem stepK_call (cx : Cx) {o : Oper} {f : Option String × Operand} (hc : isCall o = some f) (s : St) (k : St → Option R) : ∃ c : Call, o.op = .call c ∧ stepK cx o s k = match evalO s.env f.2, evalAll s.env c.args.toList with
   | some v, some vs => callX cx f.1 v vs s fun r s' => k (s'.set o.dst r)
   | _, _ => none := by
 unfold isCall at hc
 split at hc
 · rename_i c ho
   split at hc
   · rename_i f' hf
     cases hc
     exact ⟨c, ho, by simp only [stepK, ho, hf]; rfl⟩
   · rename_i f' nm hf
     cases hc
     exact ⟨c, ho, by simp only [stepK, ho, hf]; rfl⟩
   · cases hc
 · cases hc
end Go.Bm
end
section
namespace Go.Bm
set_option linter.unusedVariables false
set_option linter.unusedSimpArgs false
def Evt (p : Nat → Prop) : Prop := ∃ N, ∀ n, N ≤ n → p n
theorem Evt.all {p : Nat → Prop} (h : ∀ n, p n) : Evt p := ⟨0, fun n _ => h n⟩
theorem Evt.mono {p q : Nat → Prop} (h : Evt p) (g : ∀ n, p n → q n) : Evt q := by obtain ⟨N, h⟩ := h; exact ⟨N, fun n hn => g n (h n hn)⟩
theorem Evt.and {p q : Nat → Prop} (h : Evt p) (g : Evt q) : Evt fun n => p n ∧ q n := by
 obtain ⟨N, h⟩ := h; obtain ⟨M, g⟩ := g
 exact ⟨max N M, fun n hn => ⟨h n (by omega), g n (by omega)⟩⟩
variable {R : Type} {T : Tb} {rfi : T.RF} {rbi : T.RB} {rf : Nat → T.RF} {rb : Nat → T.RB}
def NearF (rfi : T.RF) (rf : Nat → T.RF) : Prop := ∀ f d y, rfi f d = some y → Evt fun n => rf n f d = some y
def NearB (rbi : T.RB) (rb : Nat → T.RB) : Prop := ∀ κ d y, rbi κ d = some y → Evt fun n => rb n κ d = some y
theorem leaveF_lim {T' : Tm} {ρ : Rho} {s : St} {ki : SVal → St → Option R} {k : Nat → SVal → St → Option R} {r : R} (hk : ∀ v s', ki v s' = some r → Evt fun n => k n v s' = some r) : ∀ {l : List Tm} {y : (outsT l).denote},
  leaveF T' ρ s l y ki = some r → Evt fun n => leaveF T' ρ s l y (k n) = some r
 | [], y, h => by cases h
 | [T2], y, h => by
   simp only [leaveF] at h ⊢
   cases hv : resultVal (backVals T' ρ T2 (fromD T2.cts y) s) with
   | none => rw [hv] at h; cases h
   | some v => rw [hv] at h; exact hk _ _ h
 | T2 :: b :: r', .inl y, h => by
   simp only [leaveF] at h ⊢
   cases hv : resultVal (backVals T' ρ T2 (fromD T2.cts y) s) with
   | none => rw [hv] at h; cases h
   | some v => rw [hv] at h; exact hk _ _ h
 | T2 :: b :: r', .inr y, h => by
   simp only [leaveF] at h ⊢
   exact leaveF_lim hk (l := b :: r') h
theorem leaveN_lim {s : St} {ki : SVal → St → Option R} {k : Nat → SVal → St → Option R} {r : R} (hk : ∀ v s', ki v s' = some r → Evt fun n => k n v s' = some r) : ∀ {l : List Tm} {y : (outsT l).denote},
  leaveN s l y ki = some r → Evt fun n => leaveN s l y (k n) = some r
 | [], y, h => by cases h
 | [T2], y, h => by
   simp only [leaveN] at h ⊢
   cases hb : T2.objs.isEmpty && (T2.vals (fromD T2.cts y)).all SVal.flat with
   | false => rw [hb] at h; cases h
   | true =>
     rw [hb] at h
     cases hv : resultVal (T2.vals (fromD T2.cts y)) with
     | none => rw [hv] at h; cases h
     | some v => rw [hv] at h; exact hk _ _ h
 | T2 :: b :: r', .inl y, h => by
   simp only [leaveN] at h ⊢
   cases hb : T2.objs.isEmpty && (T2.vals (fromD T2.cts y)).all SVal.flat with
   | false => rw [hb] at h; cases h
   | true =>
     rw [hb] at h
     cases hv : resultVal (T2.vals (fromD T2.cts y)) with
     | none => rw [hv] at h; cases h
     | some v => rw [hv] at h; exact hk _ _ h
 | T2 :: b :: r', .inr y, h => by
   simp only [leaveN] at h ⊢
   exact leaveN_lim hk (l := b :: r') h
theorem callTry_lim (hf : NearF rfi rf) {args : List SVal} {s : St} {ki : SVal → St → Option R} {k : Nat → SVal → St → Option R} {r : R} (hk : ∀ v s', ki v s' = some r → Evt fun n => k n v s' = some r) : ∀ (l : List Nat),
  callTry (T.cx rfi rbi) args s ki l = some r → Evt fun n => callTry (T.cx (rf n) (rb n)) args s (k n) l = some r
 | [], h => by cases h
 | φ :: l, h => by
   simp only [callTry] at h ⊢
   dsimp only [Tb.cx] at h ⊢
   cases hp : packIn (T.kin φ) args s with
   | none => rw [hp] at h; exact callTry_lim hf hk l h
   | some p =>
     obtain ⟨d, ρ, s1⟩ := p
     rw [hp] at h
     obtain ⟨y, h1, h2⟩ := Option.bind_eq_some_iff.1 h
     cases hl : T.lend φ with
     | false =>
       rw [hl] at h2
       exact ((hf φ d y h1).and (leaveF_lim hk h2)).mono fun n hn => by simp only [hn.1, Option.bind_some, cond_false]; exact hn.2
     | true =>
       rw [hl] at h2
       cases hb : (T.kin φ).objs.isEmpty with
       | false => rw [hb] at h2; cases h2
       | true =>
         rw [hb] at h2
         exact ((hf φ d y h1).and (leaveN_lim hk h2)).mono fun n hn => by simp only [hn.1, Option.bind_some, cond_true]; exact hn.2
theorem callK_lim (hf : NearF rfi rf) {v : SVal} {args : List SVal} {s : St} {ki : SVal → St → Option R} {k : Nat → SVal → St → Option R} {r : R} (hk : ∀ v s', ki v s' = some r → Evt fun n => k n v s' = some r)
  (h : callK (T.cx rfi rbi) v args s ki = some r) : Evt fun n => callK (T.cx (rf n) (rb n)) v args s (k n) = some r := by
 unfold callK at h ⊢
 split at h
 · exact callTry_lim hf hk _ h
 · cases h
theorem callX_lim (hf : NearF rfi rf) {m : Option String} {v : SVal} {args : List SVal} {s : St} {ki : SVal → St → Option R} {k : Nat → SVal → St → Option R} {r : R} (hk : ∀ v s', ki v s' = some r → Evt fun n => k n v s' = some r)
  (h : callX (T.cx rfi rbi) m v args s ki = some r) : Evt fun n => callX (T.cx (rf n) (rb n)) m v args s (k n) = some r := by
 cases m with
 | none => exact callK_lim hf hk h
 | some name => exact absurd (show (none : Option R) = some r from h) (by simp)
theorem stepK_lim (hf : NearF rfi rf) {o : Oper} {s : St} {ki : St → Option R} {k : Nat → St → Option R} {r : R} (hk : ∀ s', ki s' = some r → Evt fun n => k n s' = some r)
  (h : stepK (T.cx rfi rbi) o s ki = some r) : Evt fun n => stepK (T.cx (rf n) (rb n)) o s (k n) = some r := by
 cases hc : isCall o with
 | none =>
   rw [stepK_nat rfi rfi rbi rbi o s ki hc] at h
   obtain ⟨s', h1, h2⟩ := Option.bind_eq_some_iff.1 h
   exact (hk s' h2).mono fun n hn => by rw [stepK_nat (rf n) rfi (rb n) rbi o s (k n) hc, h1]; exact hn
 | some f =>
   obtain ⟨c, ho, e⟩ := stepK_call (T.cx rfi rbi) hc s ki
   rw [e] at h
   split at h
   case h_2 => cases h
   rename_i v vs hv hvs
   refine (callX_lim (rb := rb) (k := fun n r s' => k n (s'.set o.dst r)) hf (fun v s' h' => hk _ h') h).mono fun n hn => ?_
   obtain ⟨c', ho', e'⟩ := stepK_call (T.cx (rf n) (rb n)) hc s (k n)
   rw [ho] at ho'; cases ho'
   rw [e', hv, hvs]
   exact hn
theorem guardK_lim {b want : Bool} {d : Nat} {dst : Option Nat} {s : St} {yi ni : St → Option R} {y n : Nat → St → Option R} {r : R} (hy : ∀ s', yi s' = some r → Evt fun i => y i s' = some r) (hn : ∀ s', ni s' = some r → Evt fun i => n i s' = some r)
  (h : guardK b want d dst s yi ni = some r) : Evt fun i => guardK b want d dst s (y i) (n i) = some r := by
 cases b <;> cases want <;> first | exact hy _ h | exact hn _ h
theorem evOps_lim (hf : NearF rfi rf) {all : List Oper} {ki : St → Option R} {k : Nat → St → Option R} {r : R} (hk : ∀ s', ki s' = some r → Evt fun n => k n s' = some r) : ∀ (l : List Oper) (s : St),
  evOps (T.cx rfi rbi) all l s ki = some r → Evt fun n => evOps (T.cx (rf n) (rb n)) all l s (k n) = some r
 | [], s, h => hk s h
 | o :: l, s, h => by
   have ih := evOps_lim (all := all) hf hk l
   simp only [evOps] at h ⊢
   have yes : ∀ s', stepK (T.cx rfi rbi) o s' (fun s'' => evOps (T.cx rfi rbi) all l s'' ki) = some r → Evt fun n => stepK (T.cx (rf n) (rb n)) o s' (fun s'' => evOps (T.cx (rf n) (rb n)) all l s'' (k n)) = some r :=
    fun s' h' => stepK_lim (k := fun n s'' => evOps (T.cx (rf n) (rb n)) all l s'' (k n)) hf (fun s'' h'' => ih s'' h'') h'
   cases hg : o.guard with
   | none =>
     rw [hg] at h
     exact (yes s h).mono fun n hn => hn
   | some jw =>
     obtain ⟨j, want⟩ := jw
     rw [hg] at h
     cases hd : (nth all j).bind (·.dst) with
     | none => simp only [hd] at h; cases h
     | some d =>
       simp only [hd] at h ⊢
       cases hl : look s.env d with
       | none => rw [hl] at h; cases h
       | some v =>
         rw [hl] at h
         cases v with
         | one l' =>
           cases l' with
           | bool b =>
             cases b
             · exact guardK_lim (b := false) (y := fun n s => stepK (T.cx (rf n) (rb n)) o s fun s' => evOps (T.cx (rf n) (rb n)) all l s' (k n)) (n := fun n s => evOps (T.cx (rf n) (rb n)) all l s (k n)) yes ih h
             · exact guardK_lim (b := true) (y := fun n s => stepK (T.cx (rf n) (rb n)) o s fun s' => evOps (T.cx (rf n) (rb n)) all l s' (k n)) (n := fun n s => evOps (T.cx (rf n) (rb n)) all l s (k n)) yes ih h
           | _ => cases h
         | skip => exact ih _ h
         | _ => cases h
theorem evOp1_lim (hf : NearF rfi rf) {all : List Oper} {o : Oper} {s : St} {ki : St → Option R} {k : Nat → St → Option R} {r : R} (hk : ∀ s', ki s' = some r → Evt fun n => k n s' = some r)
  (h : evOp1 (T.cx rfi rbi) all o s ki = some r) : Evt fun n => evOp1 (T.cx (rf n) (rb n)) all o s (k n) = some r := by
 unfold evOp1 at h ⊢
 cases hg : o.guard with
 | none => rw [hg] at h; exact stepK_lim hf hk h
 | some jw =>
   obtain ⟨j, want⟩ := jw
   rw [hg] at h
   cases hd : (nth all j).bind (·.dst) with
   | none => simp only [hd] at h; cases h
   | some d =>
     simp only [hd] at h ⊢
     cases hl : look s.env d with
     | none => rw [hl] at h; cases h
     | some v =>
       rw [hl] at h
       cases v with
       | one l' =>
         cases l' with
         | bool b =>
           cases b
           · exact guardK_lim (b := false) (y := fun n s => stepK (T.cx (rf n) (rb n)) o s (k n)) (n := fun n s => k n s) (fun s' h' => stepK_lim hf hk h') hk h
           · exact guardK_lim (b := true) (y := fun n s => stepK (T.cx (rf n) (rb n)) o s (k n)) (n := fun n s => k n s) (fun s' h' => stepK_lim hf hk h') hk h
         | _ => cases h
       | skip => exact hk _ h
       | _ => cases h
theorem stepT_lim (hf : NearF rfi rf) {o : Oper} {s : St} {ki : St → Option R} {k : Nat → St → Option R} {r : R} (hk : ∀ s', ki s' = some r → Evt fun n => k n s' = some r)
  (h : stepT (T.cx rfi rbi) o s ki = some r) : Evt fun n => stepT (T.cx (rf n) (rb n)) o s (k n) = some r := by
 unfold stepT at h ⊢
 cases hs : stableOp o s with
 | false => rw [hs] at h; cases h
 | true => rw [hs] at h; exact stepK_lim hf hk h
theorem evOpT_lim (hf : NearF rfi rf) {all : List Oper} {o : Oper} {s : St} {ki : St → Option R} {k : Nat → St → Option R} {r : R} (hk : ∀ s', ki s' = some r → Evt fun n => k n s' = some r)
  (h : evOpT (T.cx rfi rbi) all o s ki = some r) : Evt fun n => evOpT (T.cx (rf n) (rb n)) all o s (k n) = some r := by
 unfold evOpT at h ⊢
 cases hg : o.guard with
 | none => rw [hg] at h; exact stepT_lim hf hk h
 | some jw =>
   obtain ⟨j, want⟩ := jw
   rw [hg] at h
   cases hd : (nth all j).bind (·.dst) with
   | none => simp only [hd] at h; cases h
   | some d =>
     simp only [hd] at h ⊢
     cases hl : look s.env d with
     | none => rw [hl] at h; cases h
     | some v =>
       rw [hl] at h
       cases v with
       | one l' =>
         cases l' with
         | bool b =>
           cases b
           · exact guardK_lim (b := false) (y := fun n s => stepT (T.cx (rf n) (rb n)) o s (k n)) (n := fun n s => k n s) (fun s' h' => stepT_lim hf hk h') hk h
           · exact guardK_lim (b := true) (y := fun n s => stepT (T.cx (rf n) (rb n)) o s (k n)) (n := fun n s => k n s) (fun s' h' => stepT_lim hf hk h') hk h
         | _ => cases h
       | skip => exact hk _ h
       | _ => cases h
theorem agree_of {x y : Option R} {r : R} (h1 : x = some r) (h2 : y = some r) : agree x y = some r := by rw [h1, h2, agree_self]
theorem evOrd_lim (hf : NearF rfi rf) {all : List Oper} {ki : St → Option R} {k : Nat → St → Option R} {r : R} (hk : ∀ s', ki s' = some r → Evt fun n => k n s' = some r) : ∀ (t : OrdT) (s : St),
  evOrd (T.cx rfi rbi) all t s ki = some r → Evt fun n => evOrd (T.cx (rf n) (rb n)) all t s (k n) = some r
 | .done, s, h => hk s h
 | .take i t, s, h => by
   simp only [evOrd] at h ⊢
   cases ho : nth all i with
   | none => rw [ho] at h; cases h
   | some o =>
     rw [ho] at h
     exact evOpT_lim (k := fun n s' => evOrd (T.cx (rf n) (rb n)) all t s' (k n)) hf (fun s' h' => evOrd_lim hf hk t s' h') h
 | .only i t, s, h => by
   simp only [evOrd] at h ⊢
   cases ho : nth all i with
   | none => rw [ho] at h; cases h
   | some o =>
     rw [ho] at h
     obtain ⟨hrf, h⟩ := cond_none h
     simp only [hrf, cond_true]
     exact evOp1_lim (k := fun n s' => evOrd (T.cx (rf n) (rb n)) all t s' (k n)) hf (fun s' h' => evOrd_lim hf hk t s' h') h
 | .alt i t q, s, h => by
   simp only [evOrd] at h ⊢
   cases ho : nth all i with
   | none => rw [ho] at h; cases h
   | some o =>
     rw [ho] at h
     obtain ⟨hrf, h⟩ := cond_none h
     simp only [hrf, cond_true]
     obtain ⟨h1, h2⟩ := agree_some h
     exact ((evOp1_lim (k := fun n s' => evOrd (T.cx (rf n) (rb n)) all t s' (k n)) hf (fun s' h' => evOrd_lim hf hk t s' h') h1).and (evOrd_lim hf hk q s h2)).mono fun n hn => agree_of hn.1 hn.2
theorem leaveBlk_lim {T' : Tm} {ρ : Rho} {keep : List Nat} {s : St} {ki : Ex → St → Option R} {k : Nat → Ex → St → Option R} {r : R} (hk : ∀ e s', ki e s' = some r → Evt fun n => k n e s' = some r) : ∀ {l : List (Ex × List Nat × Tm)} {y : (exitsT l).denote},
  leaveBlk T' ρ keep s l y ki = some r → Evt fun n => leaveBlk T' ρ keep s l y (k n) = some r
 | [], y, h => by cases h
 | [(e, slots, T2)], y, h => hk _ _ h
 | (e, slots, T2) :: b :: r', .inl y, h => hk _ _ h
 | (e, slots, T2) :: b :: r', .inr y, h => leaveBlk_lim hk (l := b :: r') h
theorem enterBlk_lim (hb : NearB rbi rb) {κ : Nat} {s : St} {ki : Ex → St → Option R} {k : Nat → Ex → St → Option R} {r : R} (hk : ∀ e s', ki e s' = some r → Evt fun n => k n e s' = some r)
  (h : enterBlk (T.cx rfi rbi) κ s ki = some r) : Evt fun n => enterBlk (T.cx (rf n) (rb n)) κ s (k n) = some r := by
 unfold enterBlk at h ⊢
 dsimp only [Tb.cx] at h ⊢
 cases hl : lookAll s.env (T.bk κ).slots with
 | none => rw [hl] at h; cases h
 | some vs =>
   simp only [hl] at h ⊢
   cases hp : packIn (T.bk κ).ins vs s with
   | none => rw [hp] at h; cases h
   | some p =>
     obtain ⟨d, ρ, s1⟩ := p
     simp only [hp] at h ⊢
     obtain ⟨y, h1, h2⟩ := Option.bind_eq_some_iff.1 h
     exact ((hb κ _ y h1).and (leaveBlk_lim hk h2)).mono fun n hn => by rw [hn.1]; exact hn.2
theorem loopU_lim {bi : St → (Ex → St → Option R) → Option R} {b : Nat → St → (Ex → St → Option R) → Option R} {r : R}
  (hbd : ∀ (ki : Ex → St → Option R) (k : Nat → Ex → St → Option R) (s : St), (∀ e s', ki e s' = some r → Evt fun n => k n e s' = some r) → bi s ki = some r → Evt fun n => b n s (k n) = some r)
  {ki : Ex → St → Option R} {k : Nat → Ex → St → Option R} (hk : ∀ e s', ki e s' = some r → Evt fun n => k n e s' = some r) : ∀ (m : Nat) (s : St), loopU bi m s ki = some r → Evt fun n => loopU (b n) m s (k n) = some r
 | 0, s, h => by cases h
 | m + 1, s, h => by
   simp only [loopU] at h ⊢
   refine hbd _ (fun n e s' => match e with
    | .norm => loopU (b n) m s' (k n)
    | .out id => k n (.out id) s'
    | .ret => k n .ret s') s (fun e s' h' => ?_) h
   cases e with
   | norm => exact loopU_lim hbd hk m s' h'
   | out id => exact hk _ _ h'
   | ret => exact hk _ _ h'
theorem ev_lim (hf : NearF rfi rf) (hb : NearB rbi rb) {H : Hn} {r : R} : ∀ (c : Code) (ki : Ex → St → Option R) (k : Nat → Ex → St → Option R) (s : St), (∀ e s', ki e s' = some r → Evt fun n => k n e s' = some r) →
  ev (T.cx rfi rbi) H c s ki = some r → Evt fun n => ev (T.cx (rf n) (rb n)) H c s (k n) = some r
 | .skip, ki, k, s, hk, h => hk _ _ h
 | .region _ ops false, ki, k, s, hk, h => evOps_lim (k := fun n => k n .norm) hf (fun s' h' => hk _ _ h') _ s h
 | .region id ops true, ki, k, s, hk, h => by
   simp only [ev] at h ⊢
   cases hd : H.dk id with
   | none => rw [hd] at h; cases h
   | some p =>
     obtain ⟨slots, t⟩ := p
     rw [hd] at h
     exact evOrd_lim (k := fun n s' => k n .norm { s' with hold := [] }) hf (fun s' h' => hk _ _ h') t _ h
 | .seq a b, ki, k, s, hk, h => by
   simp only [ev] at h ⊢
   refine ev_lim hf hb a _ (fun n e s' => match e with
    | .norm => match (firstRegion b).bind H.tk with
      | some κ => enterBlk (T.cx (rf n) (rb n)) κ s' (k n)
      | none => ev (T.cx (rf n) (rb n)) H b s' (k n)
    | .out id => k n (.out id) s'
    | .ret => k n .ret s') s (fun e s' h' => ?_) h
   cases e with
   | norm =>
     simp only at h' ⊢
     cases ht : (firstRegion b).bind H.tk with
     | none => rw [ht] at h'; exact ev_lim hf hb b ki k s' hk h'
     | some κ => rw [ht] at h'; exact enterBlk_lim hb hk h'
   | out id => exact hk _ _ h'
   | ret => exact hk _ _ h'
 | .cond c a b, ki, k, s, hk, h => by
   simp only [ev] at h ⊢
   cases hc : evalO s.env c with
   | none => rw [hc] at h; cases h
   | some v =>
     rw [hc] at h
     cases v with
     | one l =>
       cases l with
       | bool t =>
         cases t
         · exact ev_lim hf hb b ki k s hk h
         · exact ev_lim hf hb a ki k s hk h
       | anyb =>
         obtain ⟨h1, h2⟩ := agree_some h
         refine ((ev_lim hf hb a ki k s hk h1).and (ev_lim hf hb b ki k s hk h2)).mono fun n hn => ?_
         show agree _ _ = some r
         rw [hn.1, hn.2]; exact agree_self _
       | _ => cases h
     | _ => cases h
 | .block id c, ki, k, s, hk, h => by
   simp only [ev] at h ⊢
   cases hl : H.lk id with
   | some κ => rw [hl] at h; exact enterBlk_lim hb hk h
   | none =>
     rw [hl] at h
     refine ev_lim hf hb c _ (fun n e s' => match e with
      | .out id' => bif Nat.beq id' id then k n .norm s' else k n (.out id') s'
      | .norm => k n .norm s'
      | .ret => k n .ret s') s (fun e s' h' => ?_) h
     cases e with
     | norm => exact hk _ _ h'
     | ret => exact hk _ _ h'
     | out id' =>
       simp only at h' ⊢
       cases hq : Nat.beq id' id with
       | true => rw [hq] at h'; exact hk _ _ h'
       | false => rw [hq] at h'; exact hk _ _ h'
 | .loop c, ki, k, s, hk, h => loopU_lim (b := fun n => ev (T.cx (rf n) (rb n)) H c) (fun ki k s hk h => ev_lim hf hb c ki k s hk h) hk 16 s h
 | .exit id, ki, k, s, hk, h => hk _ _ h
 | .ret, ki, k, s, hk, h => hk _ _ h
 | .rangeFunc _ _ _ _, ki, k, s, hk, h => by simp [ev] at h
 | .scope _, ki, k, s, hk, h => by simp [ev] at h
 | .label _, ki, k, s, hk, h => by simp [ev] at h
 | .goto _, ki, k, s, hk, h => by simp [ev] at h
 | .refuse _, ki, k, s, hk, h => by simp [ev] at h
theorem resultsOf_cx (rf rf' : T.RF) (rb rb' : T.RB) (s : St) : ∀ (rs : List ResultVar), resultsOf (T.cx rf rb) s rs = resultsOf (T.cx rf' rb') s rs
 | [] => rfl
 | r :: rs => by
   simp only [resultsOf, resultsOf_cx rf rf' rb rb' s rs]
   cases r <;> rfl
theorem evFn_lim (hf : NearF rfi rf) (hb : NearB rbi rb) {H : Hn} {φ : Nat} {c : Code} {rs : List ResultVar} {d : (T.kin φ).ct.denote} {y : (outsT (T.kouts φ)).denote}
  (h : evFn (T.cx rfi rbi) H φ c rs d = some y) : Evt fun n => evFn (T.cx (rf n) (rb n)) H φ c rs d = some y := by
 unfold evFn at h ⊢
 dsimp only [Tb.cx] at h ⊢
 refine ev_lim hf hb c _ _ _ (fun e s' h' => ?_) h
 refine Evt.all fun n => ?_
 cases e with
 | out id => cases h'
 | _ =>
   simp only at h' ⊢
   split at h'
   case h_2 => cases h'
   rename_i vs h1
   have h1' : resultsOf (T.cx (rf n) (rb n)) s' rs = some vs := by rw [resultsOf_cx (rf n) rfi (rb n) rbi]; exact h1
   simp only [h1']; exact h'
theorem evBlk_lim (hf : NearF rfi rf) (hb : NearB rbi rb) {H : Hn} {κ : Nat} {c : BCode} {d : (T.bk κ).ins.ct.denote} {y : (exitsT (T.bk κ).exits).denote}
  (h : evBlk (T.cx rfi rbi) H κ c d = some y) : Evt fun n => evBlk (T.cx (rf n) (rb n)) H κ c d = some y := by
 cases c with
 | tail c =>
   simp only [evBlk] at h ⊢
   exact ev_lim hf hb c _ (fun n e s => packExit (stayRho 0 (T.bk κ).ins.objs) (T.bk κ).exits e s) _ (fun e s' h' => Evt.all fun n => h') h
 | loop id c =>
   simp only [evBlk] at h ⊢
   dsimp only [Tb.cx] at h ⊢
   refine ev_lim hf hb c _ _ _ (fun e s' h' => ?_) h
   cases e with
   | ret => exact Evt.all fun n => h'
   | out id' => exact Evt.all fun n => h'
   | norm =>
     simp only at h' ⊢
     cases hl : lookAll s'.env (T.bk κ).slots with
     | none => rw [hl] at h'; cases h'
     | some vs =>
       simp only [hl] at h' ⊢
       cases hp : packD (T.bk κ).ins (stayRho 0 (T.bk κ).ins.objs) vs s' with
       | none =>
         simp only [hp] at h' ⊢
         cases ha : H.al κ with
         | none => rw [ha] at h'; cases h'
         | some κ2 =>
           simp only [ha] at h' ⊢
           exact enterBlk_lim (T := T) (k := fun _ e' s' => packExit (stayRho 0 (T.bk κ).ins.objs) (T.bk κ).exits e' s') hb (fun e s' h'' => Evt.all fun n => h'') h'
       | some p =>
         obtain ⟨d', ρ, s1⟩ := p
         simp only [hp] at h' ⊢
         exact hb κ _ y h'
end Go.Bm
end
