import Derived.Test.YtadonikkibahnaaGreatBmA
import Derived.Laws.Small
import Derived.Laws.Strings
import Derived.Laws.StructEq
import Derived.Laws.Tables
section
namespace Go.Bm
set_option linter.unusedVariables false
section
variable {P:Program} {R:Type} {w0:World} {Φ0 own0:Nat → Prop} {N:Frm} {w:World} {Φ:Nat → Prop} {β:Loc} {s:St} {a:Act} {hp:List (Nat × SObj)}
theorem LfR_oneCell:∀ {l:Leaf} {v:Value},LfR w Φ β hp l v → l.def = true → v.oneCell' = true
 | .undef,_,_,h => by cases h
 | .int _ _,_,h,_ => by cases h; rfl
 | .bool _,_,h,_ => by cases h; rfl
 | .str _,_,⟨_,h,_⟩,_ => by cases h; rfl
 | .list _ _,_,⟨_,_,h,_⟩,_ => by cases h; rfl
 | .clist _ _,_,⟨_,_,h⟩,_ => by cases h; rfl
 | .nils,_,h,_ => by cases h; rfl
 | .ptr _ _,_,⟨_,_,h⟩,_ => by cases h; rfl
 | .eptr _ _ _,_,⟨_,_,⟨_,h⟩,_⟩,_ => by cases h; rfl
 | .vptr _ _ _,_,⟨_,_,_,_,_,_,h⟩,_ => by cases h; rfl
 | .sl _ _,_,⟨_,_,⟨_,_,_,h⟩,_⟩,_ => by cases h; rfl
 | .fn _ _ _,_,⟨_,_,h,_⟩,_ => by cases h; rfl
 | .ifp _ _ _,_,⟨_,_,h⟩,_ => by cases h; rfl
 | .ifi _ _ _,_,h,_ => by cases h; rfl
 | .mp _,_,⟨_,_,h⟩,_ => by cases h; rfl
 | .nilp,_,h,_ => by cases h; rfl
 | .nilf,_,h,_ => by cases h; rfl
 | .nili,_,h,_ => by cases h; rfl
 | .nilm,_,h,_ => by cases h; rfl
 | .anyb,_,⟨_,h⟩,_ => by cases h; rfl
theorem CoR_LfR:∀ {l:Leaf} {v:Value},CoR l v → LfR w Φ β hp l v
 | .undef,_,_ => trivial
 | .int _ _,_,h => h
 | .bool _,_,h => h
 | .str _,_,h => h
 | .nils,_,h => h
 | .list _ _,_,h => h.elim
 | .clist _ _,_,h => h.elim
 | .ptr _ _,_,h => h.elim
 | .eptr _ _ _,_,h => h.elim
 | .vptr _ _ _,_,h => h.elim
 | .sl _ _,_,h => h.elim
 | .fn _ _ _,_,h => h.elim
 | .ifp _ _ _,_,h => h.elim
 | .ifi _ _ _,_,h => h.elim
 | .mp _,_,h => h.elim
 | .nilp,_,h => h
 | .nilf,_,h => h
 | .nili,_,h => h
 | .nilm,_,h => h
 | .anyb,_,h => h.elim
theorem CoRs_LfRs:∀ {l:List Leaf} {v:List Value},CoRs l v → LfRs w Φ β hp l v
 | [],_,h => h
 | l :: ls,_,⟨v,vs',e,h1,h2⟩ => ⟨v,vs',e,CoR_LfR h1,CoRs_LfRs h2⟩
theorem ofConst_CoR {v:Value} {l:Leaf} (h:ofConst v = some l):CoR l v:=by
 unfold ofConst at h
 split at h <;> first | (cases h; rfl) | (cases h; exact ⟨_,rfl,rfl⟩) | cases h
theorem ofConsts_CoRs:∀ {v:List Value} {l:List Leaf},ofConsts v = some l → CoRs l v
 | [],l,h => by simp [ofConsts] at h; subst h; rfl
 | v :: vs,l,h => by
   simp only [ofConsts] at h
   split at h
   · rename_i x y hx hy; cases h; exact ⟨v,vs,rfl,ofConst_CoR hx,ofConsts_CoRs hy⟩
   · cases h
theorem ofValue_SVR {v:Value} {x:SVal} (h:ofValue v = some x):SVR w Φ β hp x v:=by
 have key:∀ {v:Value},(ofConst v).map SVal.one = some x → SVR w Φ β hp x v:=by
  intro v h
  cases hl:ofConst v with
  | none => rw [hl] at h; cases h
  | some l => rw [hl] at h; cases h; exact CoR_LfR (ofConst_CoR hl)
 cases v with
 | agg cs =>
   simp only [ofValue] at h
   cases hl:ofConsts cs.toList with
   | none => rw [hl] at h; cases h
   | some l => rw [hl] at h; cases h; exact ⟨cs,rfl,CoRs_LfRs (ofConsts_CoRs hl)⟩
 | _ => exact key h
theorem Rel.eval (hr:Rel w0 Φ0 own0 N w Φ β s a) {x:Operand} {v:SVal} (h:evalO s.env x = some v):SVR w Φ β s.heap v (a.eval x):=by
 cases x with
 | tmp t => exact hr.env t v h
 | const c => exact ofValue_SVR h
 | global g => cases h
 | func f => cases h; exact ⟨#[],#[],rfl,rfl,rfl⟩
theorem LfRs_len:∀ {l:List Leaf} {v:List Value},LfRs w Φ β hp l v → v.length = l.length
 | [],_,h => by cases h; rfl
 | l :: ls,_,⟨v,vs',e,h1,h2⟩ => by subst e; simp [LfRs_len h2]
theorem LfRs_drop:∀ {l:List Leaf} {v:List Value} (n:Nat),LfRs w Φ β hp l v → LfRs w Φ β hp (l.drop n) (v.drop n)
 | l,v,0,h => by simpa using h
 | [],_,n + 1,h => by cases h; simp [LfRs]
 | l :: ls,_,n + 1,⟨v,vs',e,h1,h2⟩ => by subst e; simpa using LfRs_drop n h2
theorem LfRs_take:∀ {l:List Leaf} {v:List Value} (n:Nat),LfRs w Φ β hp l v → LfRs w Φ β hp (l.take n) (v.take n)
 | l,v,0,h => by simp [LfRs]
 | [],_,n + 1,h => by cases h; simp [LfRs]
 | l :: ls,_,n + 1,⟨v,vs',e,h1,h2⟩ => by subst e; simp only [List.take_succ_cons]; exact ⟨v,_,rfl,h1,LfRs_take n h2⟩
theorem asVal_SVR {agg:Bool} {cs:List Leaf} {x:SVal} {vs:List Value} (h:asVal agg cs = some x) (hr:LfRs w Φ β hp cs vs):SVR w Φ β hp x (valOf agg vs):=by
 unfold asVal at h
 split at h
 · cases h; exact ⟨vs.toArray,rfl,by simpa using hr⟩
 · cases h; obtain ⟨v,vs',e,h1,h2⟩:=hr; subst e; exact h1
 · cases h
theorem unpack1_LfR:∀ (t:CT) (x:t.denote) (v:Value),VC w Φ t x [v] → LfR w Φ β hp (unpack1 t x) v
 | .int _,_,_,h => by cases h; rfl
 | .bool,_,_,h => by cases h; rfl
 | .str,_,_,⟨s,h,e⟩ => by cases h; exact ⟨s,rfl,e⟩
 | .list _,_,_,h => h
 | .unit,_,_,_ => trivial
 | .prod _ _,_,_,_ => trivial
 | .sum _ _,_,_,_ => trivial
 | .any _,_,_,_ => trivial
theorem unpackL_LfRs:∀ (t:CT) (x:t.denote) (vs:List Value),VC w Φ t x vs → LfRs w Φ β hp (unpackL t x) vs
 | .unit,_,_,h => h
 | .int _,_,_,h => ⟨_,_,h,rfl,rfl⟩
 | .bool,_,_,h => ⟨_,_,h,rfl,rfl⟩
 | .str,_,_,⟨s,h,e⟩ => ⟨_,_,h,⟨s,rfl,e⟩,rfl⟩
 | .list e,l,vs,h => by
   have hh:=h
   obtain ⟨a,cap,h1,_⟩:=h
   exact ⟨_,_,h1,by subst h1; exact hh,rfl⟩
 | .prod a r,x,vs,⟨v,vs',e,h1,h2⟩ => ⟨v,vs',e,unpack1_LfR a x.1 v h1,unpackL_LfRs r x.2 vs' h2⟩
 | .sum _ _,_,_,h => h.elim
 | .any _,_,_,⟨v,h,_⟩ => ⟨v,[],h,trivial,rfl⟩
theorem upon_ok {o:Oper} {v:Value} {w':World} {next:Act → World → Prop} {Q:Exit → Act → World → Prop} (h:(execOp a.eval o).run P w = .ok (.value v) w') (hn:next (a.put o.dst v) w'):o.wp P a w next Q:=by
 unfold Oper.wp; rw [h]; exact hn
theorem upon_skip {o:Oper} {w':World} {next:Act → World → Prop} {Q:Exit → Act → World → Prop} (h:(execOp a.eval o).run P w = .ok .skip w') (hn:next (a.put o.dst undef) w'):o.wp P a w next Q:=by
 unfold Oper.wp; rw [h]; exact hn
def PStep (P:Program) (R:Type) (S:World → Prop) (w:World) (Φ:Nat → Prop) (β:Loc) (s:St) (a:Act) (o:Oper) (k:St → Option R) (r:R):Prop :=
 ∃ x v,(∀ w',S w' → (execOp a.eval o).run P w' = .ok (.value v) w') ∧ SVR w Φ β s.heap x v ∧ k (s.set o.dst x) = some r
theorem pstep {S:World → Prop} {o:Oper} {k:St → Option R} {r:R} {x:SVal} {v:Value} (hx:k (s.set o.dst x) = some r) (he:∀ w',S w' → (execOp a.eval o).run P w' = .ok (.value v) w') (hv:SVR w Φ β s.heap x v) :
 PStep P R S w Φ β s a o k r:=⟨x,v,he,hv,hx⟩
theorem PStep.wp {S:World → Prop} {o:Oper} {next:Act → World → Prop} {Q:Exit → Act → World → Prop} {k:St → Option R} {r:R} (h:PStep P R S w Φ β s a o k r) (hr:Rel w0 Φ0 own0 N w Φ β s a) (hS:S w) (hN:∀ d,o.dst = some d → N.ok d)
  (hk:∀ s' a' w' Φ' β',Rel w0 Φ0 own0 N w' Φ' β' s' a' → k s' = some r → next a' w'):o.wp P a w next Q:=by
 obtain ⟨x,v,he,hv,hx⟩:=h
 exact upon_ok (he w hS) (hk _ _ _ _ _ (hr.set hv hN) hx)
theorem nth_getElem? {α:Type}:∀ (l:List α) (i:Nat),nth l i = l[i]?
 | [],_ => by simp [nth]
 | _ :: _,0 => by simp [nth]
 | x :: l,i + 1 => by simp [nth,nth_getElem? l i]
theorem inb_iff {i:Int} {n:Nat}:inb i n = true ↔ 0 ≤ i ∧ i < n:=by
 cases i with
 | ofNat k => simp [inb]
 | negSucc k => simp [inb]
theorem inb'_iff {i:Int} {n:Nat}:inb' i n = true ↔ 0 ≤ i ∧ i ≤ n:=by
 cases i with
 | ofNat k => simp [inb']
 | negSucc k => simp [inb']
theorem cond_none {α:Type} {b:Bool} {x:Option α} {r:α} (h:(bif b then x else none) = some r):b = true ∧ x = some r:=by
 cases b
 · cases h
 · exact ⟨rfl,h⟩
theorem cond_none' {α:Type} {b:Bool} {x:Option α} {r:α} (h:(bif b then none else x) = some r):b = false ∧ x = some r:=by
 cases b
 · exact ⟨rfl,h⟩
 · cases h
end
end Go.Bm
end
section
namespace Go.Bm
set_option linter.unusedVariables false
set_option linter.unusedSimpArgs false
def EqOk (P:Program) (t:TypeId) (zs:List Leaf):Prop:=∀ (w:World) (xs ys:List Leaf) (vx vy:Array Value) (b:Bool),likes zs xs = true → eqLeaves xs ys = some b → CoRs xs vx.toList → CoRs ys vy.toList →
 (∀ op x y,(eqGuard op t x y (.agg vx) (.agg vy)).run P w = .ok () w) ∧ (Op.equal t (.agg vx) (.agg vy)).run P w = .ok b w
def MethOk (P:Program) (t:TypeId) (name:String) (f:Nat) (how:Option (Nat × Nat)):Prop:=∀ (w:World) (b off:Nat),match how with
 | none => (method (P.types.size + Made.depth) t (.pointer (some ⟨b,off,none⟩)) name).run P w = .ok (f,.pointer (some ⟨b,off,none⟩)) w
 | some (ty,o) => ∀ v,(loadVar ty ⟨b,off + o,none⟩).run P w = .ok v w → (method (P.types.size + Made.depth) t (.pointer (some ⟨b,off,none⟩)) name).run P w = .ok (f,v) w
theorem ltB_eq:∀ (x y:List UInt8),Op.bytesLess x y = ltB x y
 | x,[] => by cases x <;> rfl
 | [],_ :: _ => rfl
 | a :: x,b :: y => by simp only [Op.bytesLess,ltB,ltB_eq x y]
structure CxOk (P:Program) (cx:Cx):Prop where
 mt:∀ t name f how,cx.mt t name = some (f,how) → MethOk P t name f how
 tab:TabOk P cx.tab
 eqt:∀ t fs zs,cx.eqt t = true → cx.tab t = some (.struct fs zs) → EqOk P t zs
section
variable {P:Program} {R:Type} {w0:World} {Φ0 own0:Nat → Prop} {N:Frm} {w:World} {Φ:Nat → Prop} {β:Loc} {s:St} {a:Act} {hp:List (Nat × SObj)}
variable {cx:Cx} {o:Oper} {next:Act → World → Prop} {Q:Exit → Act → World → Prop} {k:St → Option R} {r:R}
theorem pstep_move (hr:Rel w0 Φ0 own0 N w Φ β s a)
  {x:Operand} (ho:o.op = .move x ∨ o.op = .assign x) (h:stepK cx o s k = some r):PStep P R (fun _ => True) w Φ β s a o k r:=by
 rcases ho with ho | ho <;> (
  simp only [stepK,ho] at h
  split at h
  · rename_i v e
    exact pstep h (x:=v) (v:=a.eval x) (fun w _ => by simp [execOp,ho]) (hr.eval e)
  · cases h)
theorem step_move (hr:Rel w0 Φ0 own0 N w Φ β s a) (hN:∀ d,o.dst = some d → N.ok d) (hk:∀ s' a' w' Φ' β',Rel w0 Φ0 own0 N w' Φ' β' s' a' → k s' = some r → next a' w')
  {x:Operand} (ho:o.op = .move x ∨ o.op = .assign x) (h:stepK cx o s k = some r):o.wp P a w next Q :=
 (pstep_move hr ho h).wp hr trivial hN hk
theorem pstep_pick (hr:Rel w0 Φ0 own0 N w Φ β s a)
  {c x y:Operand} (ho:o.op = .pick c x y) (h:stepK cx o s k = some r):PStep P R (fun _ => True) w Φ β s a o k r:=by
 simp only [stepK,ho] at h
 split at h
 · rename_i t hc
   have hcv:=hr.eval hc
   simp only [SVR,LfR] at hcv
   cases t with
   | true =>
     simp only [cond_true] at h
     split at h
     · rename_i v hx
       exact pstep h (x:=v) (v:=a.eval x) (fun w _ => by simp [execOp,ho,hcv,asBool]) (hr.eval hx)
     · cases h
   | false =>
     simp only [cond_false] at h
     split at h
     · rename_i v hx
       exact pstep h (x:=v) (v:=a.eval y) (fun w _ => by simp [execOp,ho,hcv,asBool]) (hr.eval hx)
     · cases h
 · cases h
theorem step_pick (hr:Rel w0 Φ0 own0 N w Φ β s a) (hN:∀ d,o.dst = some d → N.ok d) (hk:∀ s' a' w' Φ' β',Rel w0 Φ0 own0 N w' Φ' β' s' a' → k s' = some r → next a' w')
  {c x y:Operand} (ho:o.op = .pick c x y) (h:stepK cx o s k = some r):o.wp P a w next Q :=
 (pstep_pick hr ho h).wp hr trivial hN hk
theorem eqGuard_other {op:BinOp} {t:TypeId} {x y:Operand} {u v:Value} (h1:¬ (u = .nilIface ∧ v = .nilIface)) (h2:∀ c d,¬ (u = .agg c ∧ v = .agg d)):(eqGuard op t x y u v).run P w = .ok () w:=by
 unfold eqGuard
 cases u <;> cases v <;> first | (cases op <;> simp; done) | (exact absurd ⟨rfl,rfl⟩ h1) | (exact absurd ⟨rfl,rfl⟩ (h2 _ _))
theorem run_bin {op:BinOp} {t t':TypeId} {x y:Operand} {v:Value} (ho:o.op = .binOp op t x y t') (hg:(eqGuard op t x y (a.eval x) (a.eval y)).run P w = .ok () w)
  (hb:(binOp op t (a.eval x) (a.eval y)).run P w = .ok v w):(execOp a.eval o).run P w = .ok (.value v) w:=by
 simp [execOp,ho,hg,hb]
theorem run_eql_bool {t:TypeId} (hd:P.underlying t = some .bool) (p q:Bool):(Op.equal t (.bool p) (.bool q)).run P w = .ok (p == q) w:=by
 show (Op.equalIn (9999 + 1) t _ _).run P w = _
 unfold Op.equalIn
 simp [run_underlying hd]
theorem run_bin_eql {t:TypeId} {u v:Value} {b:Bool} (hg:(Op.equal t u v).run P w = .ok b w) (h:binOp .eql t u v = (do pure (.bool (← Op.equal t u v)))):(binOp .eql t u v).run P w = .ok (.bool b) w:=by
 rw [h]; simp only [Sem.run_bind,hg,Result.andThen_ok,Sem.run_pure]
theorem run_bin_neq {t:TypeId} {u v:Value} {b:Bool} (hg:(Op.equal t u v).run P w = .ok b w) (h:binOp .neq t u v = (do pure (.bool (!(← Op.equal t u v))))):(binOp .neq t u v).run P w = .ok (.bool !b) w:=by
 rw [h]; simp only [Sem.run_bind,hg,Result.andThen_ok,Sem.run_pure]
theorem pstep_bin (hcx:CxOk P cx) (hr:Rel w0 Φ0 own0 N w Φ β s a)
  {op:BinOp} {t t':TypeId} {x y:Operand} (ho:o.op = .binOp op t x y t') (h:stepK cx o s k = some r):PStep P R (fun _ => True) w Φ β s a o k r:=by
 simp only [stepK,ho] at h
 split at h
 case h_2 => cases h
 rename_i u v hx hy
 have h1:=hr.eval hx
 have h2:=hr.eval hy
 unfold binK at h
 split at h
 ·
  rename_i j p j' q
  simp only [SVR,LfR] at h1 h2
  have hg:∀ w,(eqGuard op t x y (a.eval x) (a.eval y)).run P w = .ok () w:=fun w => by
   rw [h1,h2]; exact eqGuard_other (by simp) (by simp)
  split at h
  case isFalse =>
   cases op <;> simp only [reduceCtorEq] at h
   all_goals
    obtain ⟨hq,h⟩:=cond_none' h
    have hq':¬ q < 0:=by simpa using hq
    refine pstep h (fun w _ => run_bin ho (hg w) (by rw [h1,h2]; simp [binOp,Op.shift,hq']; rfl)) (by rfl)
  rename_i hj
  subst hj
  cases op <;> simp only [reduceCtorEq] at h
  all_goals first
   | (refine pstep h (fun w _ => run_bin ho (hg w) (by rw [h1,h2]; simp [binOp,Op.intBits]; rfl)) (by rfl); done)
   | (obtain ⟨hq,h⟩:=cond_none' h
      have hq':¬ q < 0:=by simpa using hq
      refine pstep h (fun w _ => run_bin ho (hg w) (by rw [h1,h2]; simp [binOp,Op.shift,hq']; rfl)) (by rfl); done)
   | (refine pstep h (fun w _ => run_bin ho (hg w) (by rw [h1,h2]; simp [binOp,Op.intArith,Op.intCmp]; rfl)) (by rfl); done)
   | (obtain ⟨hq,h⟩:=cond_none' h
      have hq':q ≠ 0:=by simpa using hq
      refine pstep h (fun w _ => run_bin ho (hg w) (by rw [h1,h2]; simp [binOp,Op.intDiv,hq']; rfl)) (by rfl); done)
   | (cases h; done)
 ·
  rename_i p q
  simp only [SVR,LfR] at h1 h2
  have hg:∀ w,(eqGuard op t x y (a.eval x) (a.eval y)).run P w = .ok () w:=fun w => by
   rw [h1,h2]; exact eqGuard_other (by simp) (by simp)
  split at h
  · rename_i z htd
    obtain ⟨_,d,hd,_,_,_,hb⟩:=hcx.tab t _ htd
    have:=hb.1 _ rfl; subst this
    refine pstep h (fun w _ => run_bin ho (hg w) (by rw [h1,h2]; exact run_bin_eql (run_eql_bool hd p q) rfl)) (by rfl)
  · rename_i z htd
    obtain ⟨_,d,hd,_,_,_,hb⟩:=hcx.tab t _ htd
    have:=hb.1 _ rfl; subst this
    refine pstep h (fun w _ => run_bin ho (hg w) (by rw [h1,h2]; exact run_bin_neq (run_eql_bool hd p q) rfl)) (by rfl)
  · cases h
 ·
  rename_i p q
  obtain ⟨sx,ex,ex'⟩:=h1
  obtain ⟨sy,ey,ey'⟩:=h2
  have hg:∀ w,(eqGuard op t x y (a.eval x) (a.eval y)).run P w = .ok () w:=fun w => by
   rw [ex,ey]; exact eqGuard_other (by simp) (by simp)
  have tl:∀ b:ByteArray,b.toList = b.data.toList:=fun b => ByteArray.toList_eq b
  split at h
  · refine pstep h (fun w _ => run_bin ho (hg w) (by rw [ex,ey]; simp [binOp,Op.stringOp]; rfl)) ?_
    simp [SVR,LfR,tl,ex',ey']
  · refine pstep h (fun w _ => run_bin ho (hg w) (by rw [ex,ey]; simp [binOp,Op.stringOp]; rfl)) ?_
    simp [SVR,LfR,tl,ex',ey']
  · obtain ⟨hm,h⟩:=cond_none h
    have hm':p.length + q.length ≤ most:=Nat.le_of_ble_eq_true hm
    have hsz:∀ b:ByteArray,b.size = b.data.toList.length:=fun b => (Array.length_toList (xs:=b.data)).symm
    have:¬ (((sx.size + sy.size:Nat):Int) > IntKind.i64.max):=by
     rw [hsz,hsz,ex',ey']
     have:IntKind.i64.max = 9223372036854775807:=by decide
     rw [this]; unfold most at hm'; omega
    refine pstep h (fun w _ => run_bin ho (hg w) (v:=.string (sx ++ sy)) (by rw [ex,ey]; simp only [binOp,Op.stringOp,this,if_false,Sem.run_pure])) ?_
    exact ⟨_,rfl,by simp [ex',ey']⟩
  · refine pstep h (fun w _ => run_bin ho (hg w) (by rw [ex,ey]; simp only [binOp,Op.stringOp,Sem.run_pure]; rfl)) ?_
    simp [SVR,LfR,tl,ex',ey',ltB_eq]
  · refine pstep h (fun w _ => run_bin ho (hg w) (by rw [ex,ey]; simp only [binOp,Op.stringOp,Sem.run_pure]; rfl)) ?_
    simp [SVR,LfR,tl,ex',ey',ltB_eq]
  · refine pstep h (fun w _ => run_bin ho (hg w) (by rw [ex,ey]; simp only [binOp,Op.stringOp,Sem.run_pure]; rfl)) ?_
    simp [SVR,LfR,tl,ex',ey',ltB_eq]
  · refine pstep h (fun w _ => run_bin ho (hg w) (by rw [ex,ey]; simp only [binOp,Op.stringOp,Sem.run_pure]; rfl)) ?_
    simp [SVR,LfR,tl,ex',ey',ltB_eq]
  · cases h
 ·
  rename_i e l
  have hnil:a.eval y = .slice none 0 0:=h2
  obtain ⟨aa,cap,ev,hlc,hrow⟩:=h1
  simp only [List.cons.injEq,and_true] at ev
  have hg:∀ w,(eqGuard op t x y (a.eval x) (a.eval y)).run P w = .ok () w:=fun w => by
   rw [ev,hnil]; exact eqGuard_other (by simp) (by simp)
  have heq:∀ {en:TypeId},P.underlying t = some (.slice en) → ∀ w,(Op.equal t (.slice aa l.length cap) (.slice none 0 0)).run P w = .ok aa.isNone w:=fun hd w => by
   show (Op.equalIn (9999 + 1) t _ _).run P w = _
   unfold Op.equalIn
   cases aa <;> simp [run_underlying hd]
  have hsome:l.isEmpty = false → aa.isNone = false:=fun hl => by
   rcases hrow with hrow | ⟨b,ob,e1,_⟩
   · rw [hrow] at hl; cases hl
   · rw [e1]; rfl
  split at h
  · rename_i e' en htd
    have hd:=(hcx.tab t _ htd).2.1
    cases hl:l.isEmpty with
    | true =>
      rw [hl] at h
      exact pstep h (v:=.bool aa.isNone) (fun w _ => run_bin ho (hg w) (by rw [ev,hnil]; exact run_bin_eql (heq hd w) rfl)) ⟨_,rfl⟩
    | false =>
      rw [hl] at h
      refine pstep h (v:=.bool aa.isNone) (fun w _ => run_bin ho (hg w) (by rw [ev,hnil]; exact run_bin_eql (heq hd w) rfl)) ?_
      rw [hsome hl]; rfl
  · rename_i e' en htd
    have hd:=(hcx.tab t _ htd).2.1
    cases hl:l.isEmpty with
    | true =>
      rw [hl] at h
      exact pstep h (v:=.bool !aa.isNone) (fun w _ => run_bin ho (hg w) (by rw [ev,hnil]; exact run_bin_neq (heq hd w) rfl)) ⟨_,rfl⟩
    | false =>
      rw [hl] at h
      refine pstep h (v:=.bool !aa.isNone) (fun w _ => run_bin ho (hg w) (by rw [ev,hnil]; exact run_bin_neq (heq hd w) rfl)) ?_
      rw [hsome hl]; rfl
  · cases h
 ·
  rename_i p q
  obtain ⟨vx,ex,hxr⟩:=h1
  obtain ⟨vy,ey,hyr⟩:=h2
  have co:∀ {ls ms:List Leaf} {b:Bool} {vs us:List Value},eqLeaves ls ms = some b → LfRs w Φ β s.heap ls vs → LfRs w Φ β s.heap ms us → CoRs ls vs ∧ CoRs ms us:=by
   have one:∀ {l m:Leaf} {b:Bool} {v u:Value},eqLeaf l m = some b → LfR w Φ β s.heap l v → LfR w Φ β s.heap m u → CoR l v ∧ CoR m u:=by
    intro l m b v u he hl hm
    unfold eqLeaf at he
    split at he
    · exact ⟨hl,hm⟩
    · exact ⟨hl,hm⟩
    · exact ⟨hl,hm⟩
    · cases he
   intro ls
   induction ls with
   | nil =>
     intro ms b vs us he hl hm
     cases ms with
     | nil => exact ⟨hl,hm⟩
     | cons m ms => simp [eqLeaves] at he
   | cons l ls ih =>
     intro ms b vs us he hl hm
     obtain ⟨v,vs',rfl,hl1,hl2⟩:=hl
     cases ms with
     | nil => cases ls <;> simp [eqLeaves] at he
     | cons m ms =>
       obtain ⟨u,us',rfl,hm1,hm2⟩:=hm
       have key:∃ b1,eqLeaf l m = some b1 ∧ (ls = [] ∧ ms = [] ∨ ∃ b2,eqLeaves ls ms = some b2):=by
        cases ls with
        | nil =>
          cases ms with
          | nil => simp only [eqLeaves] at he; exact ⟨b,he,.inl ⟨rfl,rfl⟩⟩
          | cons m' ms' =>
            simp only [eqLeaves] at he
            split at he
            · rename_i h1 h2; exact ⟨_,h1,.inr ⟨_,h2⟩⟩
            · cases he
        | cons l' ls' =>
          simp only [eqLeaves] at he
          split at he
          · rename_i h1 h2; exact ⟨_,h1,.inr ⟨_,h2⟩⟩
          · cases he
       obtain ⟨b1,e1,e2⟩:=key
       obtain ⟨c1,c2⟩:=one e1 hl1 hm1
       rcases e2 with ⟨rfl,rfl⟩ | ⟨b2,e2⟩
       · cases hl2; cases hm2; exact ⟨⟨v,[],rfl,c1,rfl⟩,⟨u,[],rfl,c2,rfl⟩⟩
       · obtain ⟨d1,d2⟩:=ih e2 hl2 hm2
         exact ⟨⟨v,vs',rfl,c1,d1⟩,⟨u,us',rfl,c2,d2⟩⟩
  split at h
  case h_2 => cases h
  rename_i fs zs htd
  have h2:=cond_none h
  clear h
  obtain ⟨hlk,h⟩:=h2
  simp only [Bool.and_eq_true] at hlk
  obtain ⟨heq,hlk⟩:=hlk
  have eqok:=hcx.eqt t fs zs heq htd
  split at h
  · rename_i tt he
    obtain ⟨c1,c2⟩:=co he hxr hyr
    refine pstep h (fun w _ => run_bin ho (by rw [ex,ey]; exact (eqok w _ _ vx vy _ hlk he c1 c2).1 _ _ _) (by rw [ex,ey]; exact run_bin_eql (eqok w _ _ vx vy _ hlk he c1 c2).2 rfl)) (by rfl)
  · rename_i tt he
    obtain ⟨c1,c2⟩:=co he hxr hyr
    refine pstep h (fun w _ => run_bin ho (by rw [ex,ey]; exact (eqok w _ _ vx vy _ hlk he c1 c2).1 _ _ _) (by rw [ex,ey]; exact run_bin_neq (eqok w _ _ vx vy _ hlk he c1 c2).2 rfl)) (by rfl)
  · cases h
 · cases h
theorem step_bin (hcx:CxOk P cx) (hr:Rel w0 Φ0 own0 N w Φ β s a) (hN:∀ d,o.dst = some d → N.ok d) (hk:∀ s' a' w' Φ' β',Rel w0 Φ0 own0 N w' Φ' β' s' a' → k s' = some r → next a' w')
  {op:BinOp} {t t':TypeId} {x y:Operand} (ho:o.op = .binOp op t x y t') (h:stepK cx o s k = some r):o.wp P a w next Q :=
 (pstep_bin hcx hr ho h).wp hr trivial hN hk
end
section
variable {P:Program} {R:Type} {w0:World} {Φ0 own0:Nat → Prop} {N:Frm} {w:World} {Φ:Nat → Prop} {β:Loc} {s:St} {a:Act} {hp:List (Nat × SObj)}
variable {cx:Cx} {o:Oper} {next:Act → World → Prop} {Q:Exit → Act → World → Prop} {k:St → Option R} {r:R}
theorem pstep_un (hr:Rel w0 Φ0 own0 N w Φ β s a)
  {op:UnOp} {t:TypeId} {x:Operand} (ho:o.op = .unOp op t x) (h:stepK cx o s k = some r):PStep P R (fun _ => True) w Φ β s a o k r:=by
 simp only [stepK,ho] at h
 split at h
 case h_2 => cases h
 rename_i u hx
 have h1:=hr.eval hx
 unfold unK at h
 split at h
 · simp only [SVR,LfR] at h1
   exact pstep h (fun w _ => by simp only [execOp,ho,h1,Op.unary,Op.intArith]; rfl) (by rfl)
 · simp only [SVR,LfR] at h1
   exact pstep h (fun w _ => by simp only [execOp,ho,h1,Op.unary]; rfl) (by rfl)
 · cases h
theorem step_un (hr:Rel w0 Φ0 own0 N w Φ β s a) (hN:∀ d,o.dst = some d → N.ok d) (hk:∀ s' a' w' Φ' β',Rel w0 Φ0 own0 N w' Φ' β' s' a' → k s' = some r → next a' w')
  {op:UnOp} {t:TypeId} {x:Operand} (ho:o.op = .unOp op t x) (h:stepK cx o s k = some r):o.wp P a w next Q :=
 (pstep_un hr ho h).wp hr trivial hN hk
theorem convK_int {tab:Nat → Option TD} {td dd:TD} {b:Bool} {s:St} {j:IntKind} {n:Int} {k:SVal → St → Option R}:convK tab td dd b s (.one (.int j n)) k = none:=by
 cases dd with
 | slice e en =>
   cases e with
   | int kd => cases kd <;> rfl
   | _ => rfl
 | leaf l =>
   cases l with
   | str x =>
     cases td with
     | slice e en =>
       cases e with
       | int kd =>
         cases kd with
         | u8 =>
           show (bif byteT tab en then none else none) = none
           cases byteT tab en <;> rfl
         | _ => rfl
       | _ => rfl
     | _ => rfl
   | _ => rfl
 | _ => rfl
theorem pstep_convert (hcx:CxOk P cx) (hr:Rel w0 Φ0 own0 N w Φ β s a)
  {t d:TypeId} {x:Operand} (ho:o.op = .convert t d x) (hst:stableOp o s = true) (h:stepK cx o s k = some r):PStep P R (fun _ => True) w Φ β s a o k r:=by
 simp only [stepK,ho] at h
 split at h
 · rename_i td j z k' n htd hd hx
   obtain ⟨u,hu,_⟩:=(hcx.tab t _ htd).und
   have h1:=hr.eval hx
   simp only [SVR,LfR] at h1
   obtain ⟨_,dd,hdd,_,hi,_⟩:=hcx.tab d _ hd
   have:=hi _ _ rfl; subst this
   refine pstep h (v:=.int j (j.wrap n)) (fun w _ => ?_) (by rfl)
   simp only [execOp,ho,h1,Sem.run_bind,convert,run_underlying hu,run_underlying hdd,Result.andThen_ok]
   cases u <;> simp [Conv.intToInt]
 · rename_i td z b htd hd hx
   simp [stableOp,ho,hx] at hst
 · rename_i td dd v _ _ htd hd hx
   simp only [stableOp,ho,hx] at hst
   split at hst
   · rename_i v' j n hv
     cases hv
     rw [convK_int] at h; cases h
   · cases hst
 · cases h
theorem PartsR_nth:∀ {l:List (List Leaf × Bool)} {v:List Value},PartsR w Φ β hp l v → ∀ i x,nth l i = some x → ∃ u,v[i]? = some u ∧ PartR w Φ β hp x u
 | [],_,h,i,x,hx => by simp [nth] at hx
 | l :: ls,_,⟨v,vs',e,h1,h2⟩,0,x,hx => by subst e; simp [nth] at hx; subst hx; exact ⟨v,by simp,h1⟩
 | l :: ls,_,⟨v,vs',e,h1,h2⟩,i + 1,x,hx => by subst e; simp [nth] at hx; simpa using PartsR_nth h2 i x hx
theorem PartR_SVR {cs:List Leaf} {agg:Bool} {x:SVal} {u:Value} (h:asVal agg cs = some x) (hr:PartR w Φ β hp (cs,agg) u):SVR w Φ β hp x u:=by
 unfold PartR at hr
 unfold asVal at h
 split at h
 · cases h; simp only [if_true] at hr; exact hr
 · cases h; simp only [Bool.false_eq_true,if_false] at hr; obtain ⟨v,vs',e,h1,h2⟩:=hr; cases e; exact h1
 · cases h
theorem pstep_extract (hr:Rel w0 Φ0 own0 N w Φ β s a)
  {x:Operand} {i:Nat} (ho:o.op = .extract x i) (h:stepK cx o s k = some r):PStep P R (fun _ => True) w Φ β s a o k r:=by
 simp only [stepK,ho] at h
 split at h
 case h_2 => cases h
 rename_i u hx
 have h1:=hr.eval hx
 unfold extractK at h
 split at h
 case h_2 => cases h
 rename_i ps
 obtain ⟨vs,ev,hps⟩:=h1
 split at h
 case h_2 => cases h
 rename_i cs agg hn
 split at h
 case h_2 => cases h
 rename_i v hv
 obtain ⟨y,hy,hpr⟩:=PartsR_nth hps i _ hn
 have hy':vs[i]? = some y:=by simpa using hy
 exact pstep h (v:=y) (fun w _ => by simp [execOp,ho,ev,Instr.extract,hy']) (PartR_SVR hv hpr)
theorem step_extract (hr:Rel w0 Φ0 own0 N w Φ β s a) (hN:∀ d,o.dst = some d → N.ok d) (hk:∀ s' a' w' Φ' β',Rel w0 Φ0 own0 N w' Φ' β' s' a' → k s' = some r → next a' w')
  {x:Operand} {i:Nat} (ho:o.op = .extract x i) (h:stepK cx o s k = some r):o.wp P a w next Q :=
 (pstep_extract hr ho h).wp hr trivial hN hk
theorem fields_nth {fields:List Field} {fs:List (Nat × Nat × Bool)} (h:fields.map (fieldOf P) = fs.map some) {i:Nat} {x:Nat × Nat × Bool} (hx:nth fs i = some x) :
  ∃ f,fields[i]? = some f ∧ fieldOf P f = some x:=by
 rw [nth_getElem?] at hx
 have:(fields.map (fieldOf P))[i]? = some (some x):=by rw [h]; simp [hx]
 simpa using this
theorem pstep_fieldAddr (hcx:CxOk P cx) (hr:Rel w0 Φ0 own0 N w Φ β s a)
  {t:TypeId} {x:Operand} {i:Nat} (ho:o.op = .fieldAddr t x i) (h:stepK cx o s k = some r):PStep P R (fun _ => True) w Φ β s a o k r:=by
 simp only [stepK,ho] at h
 split at h
 case h_2 => cases h
 rename_i td u htd hx
 have h1:=hr.eval hx
 unfold fieldAddrK at h
 split at h
 case h_2 => cases h
 rename_i fs zs
 obtain ⟨_,fields,hu,hf,hne⟩:=hcx.tab t _ htd
 have key:∀ (off n:Nat) (agg:Bool) (q:Addr),nth fs i = some (off,n,agg) → a.eval x = .pointer (some q) → ∀ w,True → (execOp a.eval o).run P w = .ok (.value (.pointer (some (q.add off)))) w:=by
  intro off n agg q hn hv w _
  obtain ⟨f,hfi,hfo⟩:=fields_nth hf hn
  have hfi':fields[i]? = some f:=by simpa using hfi
  unfold fieldOf at hfo
  split at hfo
  case h_2 => cases hfo
  rename_i inf dd hinf hdd
  simp only [Option.some.injEq,Prod.mk.injEq] at hfo
  obtain ⟨e1,e2,e3⟩:=hfo
  have hmem:(off,n,agg) ∈ fs:=by rw [nth_getElem?] at hn; exact List.mem_of_getElem? hn
  have hn0:inf.size ≠ 0:=by rw [e2]; exact hne _ hmem
  simp [execOp,ho,hv,Instr.fieldAt,run_underlying hu,hfi',Instr.sureAddr,fieldPlace,sizeOf,run_info hinf,hn0,e1]
 split at h
 · rename_i off n agg id p hn
   obtain ⟨b,hb,hv⟩:=h1
   exact pstep h (key _ _ _ _ hn hv) ⟨b,hb,by rw [Addr.add0]⟩
 · rename_i off n agg id j p hn
   obtain ⟨loc,hb,⟨q,hv⟩,hrow⟩:=h1
   refine pstep h (key _ _ _ _ hn hv) ⟨loc,hb,⟨_,rfl⟩,fun sz' m' h' => ?_⟩
   obtain ⟨b,ob,e1,e2⟩:=hrow sz' m' h'
   rw [hv] at e2
   simp only [Value.pointer.injEq,Option.some.injEq] at e2
   subst e2
   exact ⟨b,ob,e1,by rw [Addr.add0,Nat.add_assoc]⟩
 · rename_i off n agg e y p hn
   obtain ⟨b,ob,us,h2,h3,h4,h5⟩:=h1
   exact pstep h (key _ _ _ _ hn h5) ⟨b,ob,us,h2,h3,h4,by rw [Addr.add0,Nat.add_assoc]⟩
 · cases h
theorem step_fieldAddr (hcx:CxOk P cx) (hr:Rel w0 Φ0 own0 N w Φ β s a) (hN:∀ d,o.dst = some d → N.ok d) (hk:∀ s' a' w' Φ' β',Rel w0 Φ0 own0 N w' Φ' β' s' a' → k s' = some r → next a' w')
  {t:TypeId} {x:Operand} {i:Nat} (ho:o.op = .fieldAddr t x i) (h:stepK cx o s k = some r):o.wp P a w next Q :=
 (pstep_fieldAddr hcx hr ho h).wp hr trivial hN hk
theorem pstep_field (hcx:CxOk P cx) (hr:Rel w0 Φ0 own0 N w Φ β s a)
  {t:TypeId} {x:Operand} {i:Nat} (ho:o.op = .field t x i) (h:stepK cx o s k = some r):PStep P R (fun _ => True) w Φ β s a o k r:=by
 simp only [stepK,ho] at h
 split at h
 case h_2 => cases h
 rename_i td u htd hx
 have h1:=hr.eval hx
 unfold fieldK at h
 split at h
 case h_2 => cases h
 rename_i fs zs
 obtain ⟨_,fields,hu,hf,hne⟩:=hcx.tab t _ htd
 split at h
 case h_2 => cases h
 rename_i off n agg cs hn
 obtain ⟨vs,hv,hcs⟩:=h1
 split at h
 case h_2 => cases h
 rename_i v hval
 obtain ⟨f,hfi,hfo⟩:=fields_nth hf hn
 have hfi':fields[i]? = some f:=by simpa using hfi
 unfold fieldOf at hfo
 split at hfo
 case h_2 => cases hfo
 rename_i inf dd hinf hdd
 simp only [Option.some.injEq,Prod.mk.injEq] at hfo
 obtain ⟨e1,e2,e3⟩:=hfo
 have hR:=LfRs_take n (LfRs_drop off hcs)
 refine pstep h (v:=valOf agg ((vs.toList.drop off).take n)) (fun w _ => ?_) (asVal_SVR hval hR)
 have hagg:(isAgg f.type).run P w = .ok agg w:=by
  rw [← e3]; simp [isAgg,run_underlying hdd]; cases dd <;> rfl
 cases agg with
 | true =>
   simp only [execOp,ho,hv,Instr.field,Sem.run_bind,run_underlying hu,Result.andThen_ok,hfi',asAgg,Sem.run_pure,part,hagg,if_true,sizeOf,run_info hinf,e1,e2,valOf]
   congr 4
   rw [← Array.toList_inj]; simp [List.extract_eq_take_drop]
 | false =>
   unfold asVal at hval
   split at hval
   · contradiction
   · rename_i y heq
     rw [heq] at hR
     obtain ⟨z,zs',ez,hz1,hz2⟩:=hR
     have hz:vs[off]? = some z:=by
      have:((vs.toList.drop off).take n)[0]? = some z:=by rw [ez]; rfl
      rw [List.getElem?_take] at this
      split at this
      · simpa using this
      · cases this
     simp only [execOp,ho,hv,Instr.field,Sem.run_bind,run_underlying hu,Result.andThen_ok,hfi',asAgg,Sem.run_pure,part,hagg,sizeOf,run_info hinf,e1,e2,valOf,hz,ez]
     rfl
   · cases hval
theorem step_field (hcx:CxOk P cx) (hr:Rel w0 Φ0 own0 N w Φ β s a) (hN:∀ d,o.dst = some d → N.ok d) (hk:∀ s' a' w' Φ' β',Rel w0 Φ0 own0 N w' Φ' β' s' a' → k s' = some r → next a' w')
  {t:TypeId} {x:Operand} {i:Nat} (ho:o.op = .field t x i) (h:stepK cx o s k = some r):o.wp P a w next Q :=
 (pstep_field hcx hr ho h).wp hr trivial hN hk
theorem drop_take_cellsAt {b p:Nat} {us:List Value} (h:cellsAt w b p us) (off n:Nat):cellsAt w b (p + off) ((us.drop off).take n):=by
 refine cellsAt_of _ _ _ fun j v hj => ?_
 rw [List.getElem?_take] at hj
 split at hj
 · simp only [List.getElem?_drop] at hj
   have:=cellsAt_get us p b h (off + j) v hj
   rwa [show p + (off + j) = p + off + j by omega] at this
 · cases hj
def LoadsIn (Φ:Nat → Prop) (β:Loc) (K:Nat → Prop):SVal → Prop
 | .one (.ptr id _) => ∀ b p,β id = some (some (b,p)) → K b
 | .one (.eptr id _ _) => ∀ b p,β id = some (some (b,p)) → K b
 | .one (.vptr _ _ _) => ∀ b,Φ b → K b
 | _ => True
theorem loadS_cases {td:TD} {v:SVal} {k:SVal → St → Option R} (h:loadS s td v k = some r):loadK s td v (fun x => k x s) = some r ∨
  ∃ id i e l n row,v = .one (.eptr id i 0) ∧ look s.heap id = some (.rows e l none) ∧ td = .slice e n ∧ nth l i = some row ∧ takeK s id (.rows e l (some i)) e row k = some r:=by
 unfold loadS at h
 split at h
 · rename_i id i
   split at h
   · rename_i e l hl
     split at h
     · rename_i e' n
       split at h
       case isFalse => cases h
       rename_i he
       subst he
       cases hn:nth l i with
       | none => rw [hn] at h; cases h
       | some row => rw [hn] at h; exact .inr ⟨id,i,_,l,n,row,rfl,hl,rfl,hn,h⟩
     · cases h
   · exact .inl h
 · exact .inl h
theorem pstep_loadK (hcx:CxOk P cx) (hr:Rel w0 Φ0 own0 N w Φ β s a) {S:World → Prop} {K:Nat → Prop} (hS:∀ w',S w' → ∀ b,K b → w'.heap[b]? = w.heap[b]?)
  {t:TypeId} {x:Operand} (ho:o.op = .load t x) {td:TD} {u:SVal} (hK:LoadsIn Φ β K u) (htd:cx.tab t = some td) (h1:SVR w Φ β s.heap u (a.eval x)) (h:loadK s td u (fun r => k (s.set o.dst r)) = some r):PStep P R S w Φ β s a o k r:=by
 have hok:=hcx.tab t _ htd
 have key:∀ (b p:Nat) (us:List Value) (ls:List Leaf) (off:Nat),K b → a.eval x = .pointer (some ⟨b,p + off,none⟩) → cellsAt w b p us → LfRs w Φ β s.heap ls us →
   cutK td ls off (fun r => k (s.set o.dst r)) = some r → PStep P R S w Φ β s a o k r:=by
  intro b p us ls off hb hv hc hl hkk
  obtain ⟨hle,hkk⟩:=cond_none hkk
  have hle:=Nat.le_of_ble_eq_true hle
  split at hkk
  case h_2 => cases hkk
  rename_i v hval
  have hR:=LfRs_take td.size (LfRs_drop off hl)
  have hl2:((us.drop off).take td.size).length = td.size:=by
   rw [LfRs_len hR]; simp; omega
  refine pstep hkk (v:=valOf td.agg ((us.drop off).take td.size)) (fun w1 h1 => ?_) (asVal_SVR hval hR)
  have:=run_loadVar (P:=P) hok (drop_take_cellsAt (cellsAt_of_heap (hS w1 h1 b hb) us p hc) off td.size) hl2
  simp [execOp,ho,Instr.loadAt,hv,Instr.sureAddr,this]
 unfold loadK at h
 split at h
 · rename_i id off
   obtain ⟨b,hb,hv⟩:=h1
   split at h
   case h_3 => cases h
   · rename_i cs hl
     obtain ⟨b',vs,hb',hn,hfz,hc,hls⟩:=hr.hp.ob id _ hl
     rw [hb] at hb'; cases hb'
     exact key b 0 vs cs off (hK b 0 hb) (by rw [Nat.zero_add]; exact hv) hc hls h
   · rename_i cs hl
     obtain ⟨b',vs,hb',hn,hfz,hc,hls⟩:=hr.hp.ob id _ hl
     rw [hb] at hb'; cases hb'
     exact key b 0 vs cs off (hK b 0 hb) (by rw [Nat.zero_add]; exact hv) hc hls h
 · rename_i e y off
   obtain ⟨b,ob,us,h2,h3,h4,h5⟩:=h1
   exact key b ob us _ off (hK b h2) h5 h3 (unpackL_LfRs e y us h4) h
 · rename_i id i off
   obtain ⟨loc,hb,⟨q,hq⟩,hrow⟩:=h1
   have row:∀ (e:CT) (l:List e.denote) (y:e.denote),rowOf (look s.heap id) = some (e.size,l.length) → nth l i = some y → (∀ b p,loc = some (b,p) → RowAt w Φ e b p l) →
     cutK td (unpackL e y) off (fun r => k (s.set o.dst r)) = some r → PStep P R S w Φ β s a o k r:=by
    intro e l y hrw hn hat hkk
    obtain ⟨b,ob,e1,e2⟩:=hrow _ _ hrw
    subst e1
    obtain ⟨us,hu1,hu2⟩:=hat b ob rfl i y hn
    exact key b (ob + i * e.size) us _ off (hK b ob hb) e2 hu1 (unpackL_LfRs e y us hu2) hkk
   split at h
   · rename_i e l hl
     cases hn:nth l i with
     | none => rw [hn] at h; cases h
     | some y =>
       rw [hn] at h
       refine row e l y (by rw [hl]; rfl) hn (fun b p hbp => ?_) h
       rcases hr.hp.ob id _ hl with ⟨h3,_⟩ | ⟨b',p',h3,_,_,h6⟩
       · rw [hb] at h3; cases h3; cases hbp
       · rw [hb] at h3; cases h3; cases hbp; exact h6
   · rename_i e l hl
     cases hn:nth l i with
     | none => rw [hn] at h; cases h
     | some y =>
       rw [hn] at h
       refine row e l y (by rw [hl]; rfl) hn (fun b p hbp => ?_) h
       rcases hr.hp.ob id _ hl with ⟨h3,_⟩ | ⟨b',p',h3,_,h6⟩
       · rw [hb] at h3; cases h3; cases hbp
       · rw [hb] at h3; cases h3; cases hbp; exact h6
   · rename_i e l cs m hl
     replace h:=cond_none h
     obtain ⟨hbi,h⟩:=h
     have hi:i = l.length:=Nat.eq_of_beq_eq_true hbi
     subst hi
     obtain ⟨b',p',us,h3,_,_,_,h5,h6,_,_⟩:=hr.hp.ob id _ hl
     rw [hb] at h3; cases h3
     obtain ⟨b2,o2,e1,e2⟩:=hrow e.size _ (by rw [hl]; rfl)
     cases e1
     exact key b' (p' + l.length * e.size) us cs off (hK b' p' hb) e2 h5 h6 h
   · cases h
 · cases h
theorem pstep_load (hcx:CxOk P cx) (hr:Rel w0 Φ0 own0 N w Φ β s a) {S:World → Prop} {K:Nat → Prop} (hS:∀ w',S w' → ∀ b,K b → w'.heap[b]? = w.heap[b]?)
  {t:TypeId} {x:Operand} (ho:o.op = .load t x) (hK:∀ v,evalO s.env x = some v → LoadsIn Φ β K v) (hnt:∀ id i e l,evalO s.env x = some (.one (.eptr id i 0)) → look s.heap id = some (.rows e l none) → s.held id = true) (hng:gOp cx.gv x = none) (h:stepK cx o s k = some r):PStep P R S w Φ β s a o k r:=by
 simp only [stepK,ho,hng] at h
 split at h
 case h_2 => cases h
 rename_i td u htd hx
 rcases loadS_cases h with h | ⟨id,i,e,l,n,row,e1,e2,e3,e4,e5⟩
 · exact pstep_loadK hcx hr hS ho (hK u hx) htd (hr.eval hx) h
 · subst e1
   have:=hnt id i e l hx e2
   unfold takeK at e5
   rw [this] at e5
   cases e5
theorem step_loadK (hcx:CxOk P cx) (hr:Rel w0 Φ0 own0 N w Φ β s a) (hN:∀ d,o.dst = some d → N.ok d) (hk:∀ s' a' w' Φ' β',Rel w0 Φ0 own0 N w' Φ' β' s' a' → k s' = some r → next a' w')
  {t:TypeId} {x:Operand} (ho:o.op = .load t x) {td:TD} {u:SVal} (htd:cx.tab t = some td) (hx:SVR w Φ β s.heap u (a.eval x)) (h:loadK s td u (fun r => k (s.set o.dst r)) = some r):o.wp P a w next Q :=
 (pstep_loadK (S:=fun w' => w' = w) (K:=fun _ => True) hcx hr (fun w' e b _ => by rw [e]) ho (by unfold LoadsIn; split <;> intros <;> trivial) htd hx h).wp hr rfl hN hk
theorem loadK_run {t:TypeId} {td:TD} (hok:TdOk P t td) (hr:Rel w0 Φ0 own0 N w Φ β s a) {v:SVal} {u:Value} (hv:SVR w Φ β s.heap v u) {k:SVal → Option R} {r:R} (h:loadK s td v k = some r) :
  ∃ x b p val,u = .pointer (some ⟨b,p,none⟩) ∧ (loadVar t ⟨b,p,none⟩).run P w = .ok val w ∧ SVR w Φ β s.heap x val ∧ k x = some r:=by
 have key:∀ (b p:Nat) (us:List Value) (ls:List Leaf) (off:Nat),u = .pointer (some ⟨b,p + off,none⟩) → cellsAt w b p us → LfRs w Φ β s.heap ls us →
   cutK td ls off k = some r → ∃ x b p val,u = .pointer (some ⟨b,p,none⟩) ∧ (loadVar t ⟨b,p,none⟩).run P w = .ok val w ∧ SVR w Φ β s.heap x val ∧ k x = some r:=by
  intro b p us ls off hv hc hl hkk
  obtain ⟨hle,hkk⟩:=cond_none hkk
  have hle:=Nat.le_of_ble_eq_true hle
  split at hkk
  case h_2 => cases hkk
  rename_i v hval
  have hR:=LfRs_take td.size (LfRs_drop off hl)
  have hl2:((us.drop off).take td.size).length = td.size:=by
   rw [LfRs_len hR]; simp; omega
  exact ⟨v,b,p + off,valOf td.agg ((us.drop off).take td.size),hv,run_loadVar (P:=P) hok (drop_take_cellsAt hc off td.size) hl2,asVal_SVR hval hR,hkk⟩
 unfold loadK at h
 split at h
 · rename_i id off
   obtain ⟨b,hb,hv⟩:=hv
   split at h
   case h_3 => cases h
   · rename_i cs hl
     obtain ⟨b',vs,hb',hn,hfz,hc,hls⟩:=hr.hp.ob id _ hl
     rw [hb] at hb'; cases hb'
     exact key b 0 vs cs off (by rw [Nat.zero_add]; exact hv) hc hls h
   · rename_i cs hl
     obtain ⟨b',vs,hb',hn,hfz,hc,hls⟩:=hr.hp.ob id _ hl
     rw [hb] at hb'; cases hb'
     exact key b 0 vs cs off (by rw [Nat.zero_add]; exact hv) hc hls h
 · rename_i e y off
   obtain ⟨b,ob,us,h2,h3,h4,h5⟩:=hv
   exact key b ob us _ off h5 h3 (unpackL_LfRs e y us h4) h
 · rename_i id i off
   obtain ⟨loc,hb,⟨q,hq⟩,hrow⟩:=hv
   have row:∀ (e:CT) (l:List e.denote) (y:e.denote),rowOf (look s.heap id) = some (e.size,l.length) → nth l i = some y → (∀ b p,loc = some (b,p) → RowAt w Φ e b p l) →
     cutK td (unpackL e y) off k = some r → ∃ x b p val,u = .pointer (some ⟨b,p,none⟩) ∧ (loadVar t ⟨b,p,none⟩).run P w = .ok val w ∧ SVR w Φ β s.heap x val ∧ k x = some r:=by
    intro e l y hrw hn hat hkk
    obtain ⟨b,ob,e1,e2⟩:=hrow _ _ hrw
    subst e1
    obtain ⟨us,hu1,hu2⟩:=hat b ob rfl i y hn
    exact key b (ob + i * e.size) us _ off e2 hu1 (unpackL_LfRs e y us hu2) hkk
   split at h
   · rename_i e l hl
     cases hn:nth l i with
     | none => rw [hn] at h; cases h
     | some y =>
       rw [hn] at h
       refine row e l y (by rw [hl]; rfl) hn (fun b p hbp => ?_) h
       rcases hr.hp.ob id _ hl with ⟨h3,_⟩ | ⟨b',p',h3,_,_,h6⟩
       · rw [hb] at h3; cases h3; cases hbp
       · rw [hb] at h3; cases h3; cases hbp; exact h6
   · rename_i e l hl
     cases hn:nth l i with
     | none => rw [hn] at h; cases h
     | some y =>
       rw [hn] at h
       refine row e l y (by rw [hl]; rfl) hn (fun b p hbp => ?_) h
       rcases hr.hp.ob id _ hl with ⟨h3,_⟩ | ⟨b',p',h3,_,h6⟩
       · rw [hb] at h3; cases h3; cases hbp
       · rw [hb] at h3; cases h3; cases hbp; exact h6
   · rename_i e l cs m hl
     replace h:=cond_none h
     obtain ⟨hbi,h⟩:=h
     have hi:i = l.length:=Nat.eq_of_beq_eq_true hbi
     subst hi
     obtain ⟨b',p',us,h3,_,_,_,h5,h6,_,_⟩:=hr.hp.ob id _ hl
     rw [hb] at h3; cases h3
     obtain ⟨b2,o2,e1,e2⟩:=hrow e.size _ (by rw [hl]; rfl)
     cases e1
     exact key b' (p' + l.length * e.size) us cs off e2 h5 h6 h
   · cases h
 · cases h
theorem pstep_nilCheck (hr:Rel w0 Φ0 own0 N w Φ β s a)
  {x:Operand} (ho:o.op = .nilCheck x) (h:stepK cx o s k = some r):PStep P R (fun _ => True) w Φ β s a o k r:=by
 simp only [stepK,ho] at h
 split at h
 · rename_i id off hx
   have h1:=hr.eval hx
   have h2:=h1
   obtain ⟨b,hb,hv⟩:=h1
   exact pstep h (v:=a.eval x) (fun w _ => by simp [execOp,ho,hv]) h2
 · rename_i id i off hx
   have h1:=hr.eval hx
   have h2:=h1
   obtain ⟨loc,hb,⟨q,hv⟩,_⟩:=h1
   exact pstep h (v:=a.eval x) (fun w _ => by simp [execOp,ho,hv]) h2
 · rename_i e y off hx
   have h1:=hr.eval hx
   have h2:=h1
   obtain ⟨b,ob,us,_,_,_,hv⟩:=h1
   exact pstep h (v:=a.eval x) (fun w _ => by simp [execOp,ho,hv]) h2
 · cases h
theorem step_nilCheck (hr:Rel w0 Φ0 own0 N w Φ β s a) (hN:∀ d,o.dst = some d → N.ok d) (hk:∀ s' a' w' Φ' β',Rel w0 Φ0 own0 N w' Φ' β' s' a' → k s' = some r → next a' w')
  {x:Operand} (ho:o.op = .nilCheck x) (h:stepK cx o s k = some r):o.wp P a w next Q :=
 (pstep_nilCheck hr ho h).wp hr trivial hN hk
theorem ints_LfRs:∀ {e:CT} {ls:List Leaf} {x:e.denote} {us:List Value},ints e ls = some x → LfRs w Φ β hp ls us → LfRs w Φ β hp (unpackL e x) us
 | .int k,[.int k' x],y,us,h,hv => by
   simp only [ints] at h
   split at h
   · rename_i hk; subst hk; cases h; exact hv
   · cases h
 | .prod (.int k) b,.int k' x :: r,y,us,h,hv => by
   simp only [ints] at h
   split at h
   case isFalse => cases h
   rename_i hk
   subst hk
   split at h
   case h_2 => cases h
   rename_i z hz
   cases h
   obtain ⟨v,vs',e1,h1,h2⟩:=hv
   exact ⟨v,vs',e1,h1,ints_LfRs hz h2⟩
 | .str,[.str x],y,us,h,hv => by
   simp only [ints] at h
   cases h; exact hv
 | .prod .str b,.str x :: r,y,us,h,hv => by
   simp only [ints] at h
   split at h
   case h_2 => cases h
   rename_i z hz
   cases h
   obtain ⟨v,vs',e1,h1,h2⟩:=hv
   exact ⟨v,vs',e1,h1,ints_LfRs hz h2⟩
 | .unit,_,_,_,h,_ => by simp [ints] at h
 | .bool,_,_,_,h,_ => by simp [ints] at h
 | .str,[],_,_,h,_ => by simp [ints] at h
 | .str,l :: m :: r,_,_,h,_ => by cases l <;> simp [ints] at h
 | .prod .str _,[],_,_,h,_ => by simp [ints] at h
 | .list _,_,_,_,h,_ => by simp [ints] at h
 | .sum _ _,_,_,_,h,_ => by simp [ints] at h
 | .int _,[],_,_,h,_ => by simp [ints] at h
 | .int _,l :: m :: r,_,_,h,_ => by cases l <;> simp [ints] at h
 | .prod (.int _) _,[],_,_,h,_ => by simp [ints] at h
theorem intRows_at:∀ {n:Nat} {e:CT} {cs:List Leaf} {l:List e.denote} {i:Nat} {x:e.denote} {us:List Value},intRows e (chunks e.size n cs) = some l → nth l i = some x → LfRs w Φ β hp cs us →
  LfRs w Φ β hp (unpackL e x) ((us.drop (i * e.size)).take e.size)
 | 0,e,cs,l,i,x,us,h,hn,hv => by simp [chunks,intRows] at h; subst h; cases hn
 | n + 1,e,cs,l,i,x,us,h,hn,hv => by
   simp only [chunks,intRows] at h
   split at h
   case h_2 => cases h
   rename_i y ys hy hys
   cases h
   cases i with
   | zero =>
     cases hn
     have:=LfRs_take e.size hv
     simpa using ints_LfRs hy this
   | succ i =>
     have:=intRows_at (i:=i) hys hn (LfRs_drop e.size hv)
     rwa [List.drop_drop,show e.size + i * e.size = (i + 1) * e.size by rw [Nat.add_mul]; omega] at this
theorem pstep_index (hcx:CxOk P cx) (hr:Rel w0 Φ0 own0 N w Φ β s a)
  {t:TypeId} {x i:Operand} (ho:o.op = .index t x i) (h:stepK cx o s k = some r):PStep P R (fun _ => True) w Φ β s a o k r:=by
 simp only [stepK,ho] at h
 split at h
 case h_3 => cases h
 case h_2 =>
  rename_i e n agg zs cs kk j htd hx hi
  obtain ⟨vs,hv,hcs⟩:=hr.eval hx
  obtain ⟨_,hzs,hpos,en,hu,⟨dd,hdd,hdagg⟩,inf,hinf,hsz⟩:=hcx.tab t _ htd
  have hj:=hr.eval hi
  simp only [SVR,LfR] at hj
  unfold arrK at h
  split at h
  case h_2 => cases h
  rename_i l hl
  obtain ⟨hin,h⟩:=cond_none h
  obtain ⟨h0,hlt⟩:=inb_iff.1 hin
  cases hn:nth l j.toNat with
  | none => rw [hn] at h; cases h
  | some y =>
    rw [hn] at h
    simp only [Option.bind_some] at h
    split at h
    case h_2 => cases h
    rename_i v hval
    have hR:=intRows_at hl hn hcs
    have hlen:=LfRs_len hR
    refine pstep h (v:=valOf agg ((vs.toList.drop (j.toNat * e.size)).take e.size)) (fun w _ => ?_) (asVal_SVR hval hR)
    have hagg:(isAgg en).run P w = .ok agg w:=by
     rw [← hdagg]; simp [isAgg,run_underlying hdd]; cases dd <;> rfl
    have hcond:0 ≤ j ∧ j < (n:Int):=⟨h0,hlt⟩
    cases agg with
    | true =>
      simp only [execOp,ho,hv,hj,Instr.index,asIntOf,Sem.run_bind,Sem.run_pure,run_underlying hu,Result.andThen_ok,hcond,and_self,if_true,part,hagg,sizeOf,run_info hinf,hsz,valOf]
      congr 4
      rw [← Array.toList_inj]; simp [List.extract_eq_take_drop]
    | false =>
      unfold asVal at hval
      split at hval
      · contradiction
      · rename_i y2 heq
        rw [heq] at hR
        obtain ⟨z,zs',ez,hz1,hz2⟩:=hR
        have hz:vs[j.toNat * e.size]? = some z:=by
         have:((vs.toList.drop (j.toNat * e.size)).take e.size)[0]? = some z:=by rw [ez]; rfl
         rw [List.getElem?_take,if_pos hpos] at this
         simpa using this
        simp only [execOp,ho,hv,hj,Instr.index,asIntOf,Sem.run_bind,Sem.run_pure,run_underlying hu,Result.andThen_ok,hcond,and_self,if_true,part,hagg,sizeOf,run_info hinf,hsz,valOf,hz,ez]
        rfl
      · cases hval
 rename_i zz p kk j htd hx hi
 obtain ⟨sx,ex,ex'⟩:=hr.eval hx
 obtain ⟨_,dd,ht,_,_,hst,_⟩:=hcx.tab t _ htd
 have:=hst _ rfl; subst this
 have hj:=hr.eval hi
 simp only [SVR,LfR] at hj
 obtain ⟨hin,h⟩:=cond_none h
 obtain ⟨h0,hlt⟩:=inb_iff.1 hin
 cases hn:nth p j.toNat with
 | none => rw [hn] at h; cases h
 | some b =>
   rw [hn] at h
   rw [nth_getElem?] at hn
   have hb:sx[j.toNat]? = some b:=by
    have:sx[j.toNat]? = sx.data.toList[j.toNat]?:=by
     rw [Array.getElem?_toList]
     simp only [getElem?_def]
     rfl
    rw [this,ex',hn]
   refine pstep h (v:=.int .u8 b.toNat) (fun w _ => ?_) (by rfl)
   simp [execOp,ho,ex,hj,Instr.index,asIntOf,run_underlying ht,h0,hb]
theorem step_index (hcx:CxOk P cx) (hr:Rel w0 Φ0 own0 N w Φ β s a) (hN:∀ d,o.dst = some d → N.ok d) (hk:∀ s' a' w' Φ' β',Rel w0 Φ0 own0 N w' Φ' β' s' a' → k s' = some r → next a' w')
  {t:TypeId} {x i:Operand} (ho:o.op = .index t x i) (h:stepK cx o s k = some r):o.wp P a w next Q :=
 (pstep_index hcx hr ho h).wp hr trivial hN hk
theorem SlR_len {loc:Option (Nat × Nat)} {sz n:Nat} {rr:Option (Nat × Nat)} {v:Value} (h:SlR w loc sz n rr v):∃ b cap,v = .slice b (rr.getD (0,n)).2 cap:=by
 unfold SlR at h
 cases loc with
 | none => obtain ⟨⟨z,h1⟩,h2,h3⟩:=h; exact ⟨z,0,by rw [h1,h3]⟩
 | some bo => obtain ⟨o',cap,h1,_⟩:=h; exact ⟨_,cap,h1⟩
theorem pstep_len (hcx:CxOk P cx) (hr:Rel w0 Φ0 own0 N w Φ β s a)
  {c:Call} (ho:o.op = .call c) (hc:c.callee = .builtin .len) (hnm:∀ x id,c.args.toList = [x] → evalO s.env x ≠ some (.one (.mp id))) (h:stepK cx o s k = some r):PStep P R (fun _ => True) w Φ β s a o k r:=by
 simp only [stepK,ho,hc] at h
 split at h
 case h_2 => cases h
 rename_i x t ts hargs hty
 split at h
 case h_2 => cases h
 rename_i td v htd hx
 have hmp:lenMpK td s v = none:=by
  unfold lenMpK
  split
  · rename_i id; exact absurd hx (hnm x id hargs)
  · rfl
 rw [hmp] at h
 simp only at h
 split at h
 case h_2 => cases h
 rename_i n hl
 have h1:=hr.eval hx
 have hargs':c.args = #[x]:=by rw [← Array.toList_inj]; simpa using hargs
 have ht:c.argTypes[0]? = some t:=by rw [← Array.getElem?_toList,hty]; rfl
 have run:(∀ w,(Builtin.len_ c.argTypes o.type #[a.eval x]).run P w = .ok (.int .i64 n) w) → PStep P R (fun _ => True) w Φ β s a o k r:=by
  intro hrun
  refine pstep h (v:=.int .i64 n) (fun w _ => ?_) (by rfl)
  simp [execOp,ho,resolve,hc,invoke,builtin,hargs',hrun]
 apply run
 intro w1
 have slc:∀ (e:CT) (en:Nat) (b:Option Addr) (m c':Nat),td = .slice e en → a.eval x = .slice b m c' → (Builtin.len_ c.argTypes o.type #[a.eval x]).run P w1 = .ok (.int .i64 m) w1:=by
  intro e en b m c' etd ex
  subst etd
  have hu:=(hcx.tab t _ htd).2.1
  simp [Builtin.len_,ht,ex,run_underlying hu,goInt]
 unfold lenOf at hl
 split at hl
 · cases hl
   obtain ⟨sx,ex,ex'⟩:=h1
   obtain ⟨_,dd,hdd,_,_,hi,_⟩:=hcx.tab t _ htd
   have:=hi _ rfl; subst this
   have hsz:sx.size = sx.data.toList.length:=(Array.length_toList (xs:=sx.data)).symm
   simp [Builtin.len_,ht,ex,run_underlying hdd,goInt,hsz,ex']
 · cases hl
   obtain ⟨b,cap,ev,_⟩:=h1
   exact slc _ _ b _ cap rfl (by simpa using ev)
 · cases hl
   obtain ⟨⟨b,cap,ev,_⟩,_⟩:=h1
   exact slc _ _ b _ cap rfl (by simpa using ev)
 · cases hl; exact slc _ _ none _ 0 rfl h1
 · rename_i e en id
   split at hl
   · rename_i sz m hrow
     obtain ⟨_,hl⟩:=cond_none hl
     cases hl
     obtain ⟨loc,hb,_,hs⟩:=h1
     obtain ⟨b,cap,ev⟩:=SlR_len (hs _ _ hrow)
     exact slc _ _ b _ cap rfl ev
   · cases hl
 · rename_i e en id off m
   split at hl
   · rename_i sz m' hrow
     obtain ⟨_,hl⟩:=cond_none hl
     cases hl
     obtain ⟨loc,hb,_,hs⟩:=h1
     obtain ⟨b,cap,ev⟩:=SlR_len (hs _ _ hrow)
     exact slc _ _ b _ cap rfl ev
   · cases hl
 · cases hl
end
section
variable {P:Program} {w0:World} {Φ0 own0:Nat → Prop} {N:Frm} {w:World} {Φ:Nat → Prop} {β:Loc} {s:St} {a:Act} {hp:List (Nat × SObj)}
theorem sub_len {α:Type} (l:List α) (r:Option (Nat × Nat)) (h:(r.getD (0,l.length)).1 + (r.getD (0,l.length)).2 ≤ l.length):(sub l r).length = (r.getD (0,l.length)).2:=by
 cases r with
 | none => rfl
 | some p => simp [sub] at *; omega
theorem sub_nth {α:Type} (l:List α) (r:Option (Nat × Nat)) (i:Nat) (x:α) (h:nth (sub l r) i = some x):nth l ((r.getD (0,l.length)).1 + i) = some x:=by
 cases r with
 | none => simpa [sub] using h
 | some p =>
   rw [nth_getElem?] at *
   simp only [sub,List.getElem?_take] at h
   split at h
   · simpa using h
   · cases h
theorem row_VC {e:CT} {l:List e.denote} {r:Option (Nat × Nat)} {v:Value} {loc:Option (Nat × Nat)} (hs:SlR w loc e.size l.length r v)
  (hrow:∀ b o,loc = some (b,o) → Φ b ∧ RowAt w Φ e b o l):VC w Φ (.list e) (sub l r) [v]:=by
 unfold SlR at hs
 cases loc with
 | none =>
   obtain ⟨⟨z,h1⟩,h2,h3⟩:=hs
   have hl:l = []:=List.eq_nil_of_length_eq_zero h2
   subst hl
   have hsub:sub ([]:List e.denote) r = []:=by cases r <;> simp [sub]
   rw [hsub]
   exact ⟨z,0,by rw [h1]; rfl,Nat.le_refl _,.inl rfl⟩
 | some bo =>
   obtain ⟨b,o⟩:=bo
   obtain ⟨o',cap,h1,h2,h3,h4,h5,_⟩:=hs
   obtain ⟨hΦ,hat⟩:=hrow b o rfl
   refine ⟨some ⟨b,o',none⟩,cap,by rw [h1,sub_len l r h4],by rw [sub_len l r h4]; exact h2,?_⟩
   by_cases hn:sub l r = []
   · exact .inl hn
   · refine .inr ⟨b,o',rfl,hΦ,fun i x hx => ?_⟩
     obtain ⟨us,hu,hv⟩:=hat _ x (sub_nth l r i x hx)
     refine ⟨us,?_,hv⟩
     rcases h3 with h3 | h3
     · rw [h3,show o + (r.getD (0,l.length)).1 * e.size + i * e.size = o + ((r.getD (0,l.length)).1 + i) * e.size by rw [Nat.add_mul]; omega]
       exact hu
     · exfalso
       apply hn
       apply List.eq_nil_of_length_eq_zero
       rw [sub_len l r h4]; omega
structure Packed (w:World) (Φ:Nat → Prop) (β:Loc) (s:St) (Φ':Nat → Prop) (s':St):Prop where
 mono:Mono w Φ β s.heap w Φ' β s'.heap
 env:s'.env = s.env
 next:s'.next = s.next
 hold:s'.hold = s.hold
 look:∀ id o,look s'.heap id = some o → o.owned = true → look s.heap id = some o
theorem Packed.refl (w:World) (Φ:Nat → Prop) (β:Loc) (s:St):Packed w Φ β s Φ s :=
 ⟨⟨fun _ _ => rfl,fun _ h => h,fun _ _ h => h,fun _ _ _ _ h => h,fun _ _ _ _ _ _ => rfl⟩,rfl,rfl,rfl,fun _ _ h _ => h⟩
theorem Mono.trans {w w' w'':World} {Φ Φ' Φ'':Nat → Prop} {β β' β'':Loc} {hp hp' hp'':List (Nat × SObj)} (h:Mono w Φ β hp w' Φ' β' hp') (k:Mono w' Φ' β' hp' w'' Φ'' β'' hp''):Mono w Φ β hp w'' Φ'' β'' hp'' :=
 ⟨fun b hb => (k.frz b (h.sub b hb)).trans (h.frz b hb),fun b hb => k.sub b (h.sub b hb),fun id x hx => k.loc id x (h.loc id x hx),fun id x hx r hr => h.row id x hx r (k.row id x (h.loc id x hx) r hr),
  fun id b o r hb hr => (k.bs id b o r (h.loc id _ hb) hr).trans (h.bs id b o r hb (k.row id _ (h.loc id _ hb) r hr))⟩
theorem Packed.trans {Φ' Φ'':Nat → Prop} {s' s'':St} (h:Packed w Φ β s Φ' s') (k:Packed w Φ' β s' Φ'' s''):Packed w Φ β s Φ'' s'' :=
 ⟨h.mono.trans k.mono,k.env.trans h.env,k.next.trans h.next,k.hold.trans h.hold,fun id o hl ho => h.look id o (k.look id o hl ho) ho⟩
theorem Rel.freeze (hr:Rel w0 Φ0 own0 N w Φ β s a) {id:Nat} {e:CT} {l:List e.denote} (hl:look s.heap id = some (.arr e l)) (hh:s.held id = false) :
  ∃ Φ',Rel w0 Φ0 own0 N w Φ' β (s.put id (.frz e l)) a ∧ Packed w Φ β s Φ' (s.put id (.frz e l)) ∧ (∀ b o,β id = some (some (b,o)) → Φ' b ∧ RowAt w Φ' e b o l):=by
 let Φ':Nat → Prop:=fun b => Φ b ∨ ∃ p,β id = some (some (b,p))
 have hsub:∀ b,Φ b → Φ' b:=fun b h => .inl h
 have hrow:∀ b o,β id = some (some (b,o)) → Φ' b ∧ RowAt w Φ' e b o l:=by
  intro b o hb
  refine ⟨.inr ⟨o,hb⟩,?_⟩
  rcases hr.hp.ob id _ hl with ⟨h1,_⟩ | ⟨b',o',h1,_,_,h4⟩
  · rw [hb] at h1; cases h1
  · rw [hb] at h1; cases h1
    intro i x hx
    obtain ⟨us,hu,hv⟩:=h4 i x hx
    exact ⟨us,hu,VC_mono (fun _ _ => rfl) hsub _ _ _ hv⟩
 have hRel:Rel w0 Φ0 own0 N w Φ' β (s.put id (.frz e l)) a:=by
  refine hr.turn rfl rfl hl (.inl rfl) hh w Φ' hr.same rfl hsub ?_ (fun _ _ _ => rfl) (fun _ _ => rfl) (fun _ _ => rfl) (.inl rfl) ?_
  · intro b hb
    rcases hb with hb | hb
    · exact .inl hb
    · exact .inr ⟨rfl,rfl,hb⟩
  · rcases hr.hp.ob id _ hl with ⟨h1,h2⟩ | ⟨b',o',h1,_,_,h4⟩
    · exact .inl ⟨h1,h2⟩
    · exact .inr ⟨b',o',h1,(hrow b' o' h1).1,(hrow b' o' h1).2⟩
 refine ⟨Φ',hRel,⟨⟨fun _ _ => rfl,hsub,fun _ _ h => h,?_,fun _ _ _ _ _ _ => rfl⟩,rfl,rfl,rfl,?_⟩,hrow⟩
 · intro j x hx r hrr
   simp only [St.put,look_cons] at hrr
   split at hrr
   · rename_i e'; subst e'; rw [hl]; exact hrr
   · exact hrr
 · intro j o hj ho
   simp only [St.put,look_cons] at hj
   split at hj
   · cases hj; cases ho
   · exact hj
theorem Rel.freezeO (hr:Rel w0 Φ0 own0 N w Φ β s a) {id:Nat} {o o':SObj} (hir:o.isRows = true) (hnr:o'.isRows = false) (hl:look s.heap id = some o) (hh:s.held id = false) (hrow:rowOf (some o') = rowOf (some o))
  {Φ':Nat → Prop} (hΦ':∀ b,Φ' b ↔ Φ b ∨ RowB w β id o b ∨ (o'.owned = false ∧ ∃ p,β id = some (some (b,p)))) (hob:ObR w Φ' β (s.put id o').heap id o') :
  Rel w0 Φ0 own0 N w Φ' β (s.put id o') a ∧ Mono w Φ β s.heap w Φ' β (s.put id o').heap:=by
 have hown:o.owned = true:=by cases o <;> first | rfl | cases hir
 have hsub:∀ b,Φ b → Φ' b:=fun b h => (hΦ' b).2 (.inl h)
 have hlk:∀ j ob,look (s.put id o').heap j = some ob → (j = id ∧ ob = o') ∨ (j ≠ id ∧ look s.heap j = some ob):=by
  intro j ob hj
  simp only [St.put,look_cons] at hj
  split at hj
  · rename_i e; exact .inl ⟨e.symm,by cases hj; rfl⟩
  · rename_i e; exact .inr ⟨fun e' => e e'.symm,hj⟩
 have m:Mono w Φ β s.heap w Φ' β (s.put id o').heap:=by
  refine ⟨fun _ _ => rfl,hsub,fun _ _ h => h,?_,fun _ _ _ _ _ _ => rfl⟩
  intro j x hx r hr
  simp only [St.put,look_cons] at hr
  split at hr
  · rename_i e; subst e; rw [hl,← hrow]; exact hr
  · exact hr
 have main:∀ j ob b p,j ≠ id → look s.heap j = some ob → ob.owned = true → β j = some (some (b,p)) → ¬ Φ b → ¬ Φ' b:=by
  intro j ob b p hne hj ho hb hn hn'
  rcases (hΦ' b).1 hn' with h | h | ⟨_,q,h⟩
  · exact hn h
  · exact (hr.hp.rin id o b hl h).2.2 j ob p hj ho hb
  · exact hne (hr.hp.inj j id ob o b p q hj hl ho hown hb h)
 have rows:∀ j ob c,j ≠ id → look s.heap j = some ob → RowB w β j ob c → ¬ Φ' c:=by
  intro j ob c hne hj hc hn'
  obtain ⟨g1,g2,g3⟩:=hr.hp.rin j ob c hj hc
  rcases (hΦ' c).1 hn' with h | h | ⟨_,q,h⟩
  · exact g1 h
  · exact hne (hr.hp.rinj j id ob o c hj hl hc h)
  · exact g3 id o q hl hown h
 have hrl:∀ j ob c,look (s.put id o').heap j = some ob → RowB w β j ob c → j ≠ id ∧ look s.heap j = some ob:=by
  intro j ob c hj hc
  rcases hlk j ob hj with ⟨_,e⟩ | h
  · rw [e] at hc; exact absurd hc (RowB_none hnr)
  · exact h
 refine ⟨⟨fun t v hv => SVR_mono m _ _ (hr.env t v hv),⟨?_,hr.hp.lt,?_,?_,hr.hp.blt,?_,?_,?_⟩,?_,hr.same,fun b hb => hsub b (hr.fri b hb),?_,hr.size,hr.fix,hr.defers.mono (fun d x hx h1 h2 => ⟨rfl,fun h3 => by
  rcases (hΦ' d).1 h3 with k | k | ⟨_,q,k⟩
  · exact h2 k
  · exact RowB.off hx (hr.hp.ob id o hl) k h1
  · exact ObR.off hx (hr.hp.ob id o hl) hown k h1⟩),hr.hold,hr.keep' m,?_⟩,m⟩
 · intro j ob hj
   rcases hlk j ob hj with ⟨e1,e2⟩ | ⟨hne,hj⟩
   · rw [e1,e2]; exact hob
   · cases ho:ob.owned with
     | true => exact ObR_mono m (fun _ _ _ => rfl) (fun _ b p hb hn => main j ob b p hne hj ho hb hn) (fun c hc => ⟨rfl,fun _ => rows j ob c hne hj hc⟩) (hr.hp.ob j ob hj)
     | false =>
       cases ob with
       | dead => trivial
       | frz e l =>
         rcases hr.hp.ob j _ hj with ⟨h1,h2⟩ | ⟨b,p,h1,h2,h4⟩
         · exact .inl ⟨h1,h2⟩
         · exact .inr ⟨b,p,h1,hsub b h2,RowAt_mono m rfl h4⟩
       | _ => cases ho
 · intro j ob hj
   rcases hlk j ob hj with ⟨e1,_⟩ | ⟨_,hj⟩
   · rw [e1]; exact hr.hp.hlt _ _ hl
   · exact hr.hp.hlt _ _ hj
 · have fix:∀ j ob,look (s.put id o').heap j = some ob → ob.owned = true → ∃ ob2,look s.heap j = some ob2 ∧ ob2.owned = true:=by
    intro j ob hj ho
    rcases hlk j ob hj with ⟨e1,_⟩ | ⟨_,hj⟩
    · rw [e1]; exact ⟨o,hl,hown⟩
    · exact ⟨ob,hj,ho⟩
   intro j j' ob ob' b q q' hj hj' ho1 ho2 hb hb'
   obtain ⟨x,hx1,hx2⟩:=fix j ob hj ho1
   obtain ⟨y,hy1,hy2⟩:=fix j' ob' hj' ho2
   exact hr.hp.inj j j' x y b q q' hx1 hy1 hx2 hy2 hb hb'
 · intro b hb
   rcases (hΦ' b).1 hb with h | h | ⟨_,q,h⟩
   · exact hr.hp.flt b h
   · exact (hr.hp.rin id o b hl h).2.1
   · exact hr.hp.blt _ _ _ h
 · intro j ob c hj hc
   obtain ⟨hne,hj2⟩:=hrl j ob c hj hc
   obtain ⟨g1,g2,g3⟩:=hr.hp.rin j ob c hj2 hc
   refine ⟨rows j ob c hne hj2 hc,g2,fun j' ob' p hj' ho' hb => ?_⟩
   rcases hlk j' ob' hj' with ⟨e1,_⟩ | ⟨_,hj'⟩
   · rw [e1] at hb; exact g3 id o p hl hown hb
   · exact g3 j' ob' p hj' ho' hb
 · intro j j' ob ob' c hj hj' hc hc'
   exact hr.hp.rinj j j' ob ob' c (hrl j ob c hj hc).2 (hrl j' ob' c hj' hc').2 hc hc'
 · intro j ob b q hj ho hb
   rcases hlk j ob hj with ⟨e1,_⟩ | ⟨_,hj⟩
   · rw [e1] at hb ⊢; exact hr.own id o b q hl hown hb
   · exact hr.own j ob b q hj ho hb
 · intro b hb
   rcases (hΦ' b).1 hb with h | h | ⟨_,q,h⟩
   · exact hr.fro b h
   · exact .inr (hr.rown id o b hl h)
   · exact .inr (hr.mine hh hl hown h)
 · intro j ob c hj hc
   exact hr.rown j ob c (hrl j ob c hj hc).2 hc
theorem RowV_VC {e:CT} {v:Value} {row:List e.denote} {Φ':Nat → Prop} (h:RowV w Φ e v row) (hc:∀ c,PtB v c → Φ' c) (hs:∀ b,Φ b → Φ' b):VC w Φ' (.list e) row [v]:=by
 rcases h with ⟨⟨z,h1⟩,h2⟩ | ⟨c,o,cap,h1,h2,h3,h4,h5,h6,h7,h8⟩
 · subst h1; subst h2; exact ⟨z,0,rfl,Nat.le_refl _,.inl rfl⟩
 · refine ⟨_,cap,by rw [h1],h3,.inr ⟨c,o,rfl,hc c ⟨o,_,cap,h1,h2⟩,fun i x hx => ?_⟩⟩
   obtain ⟨us,k1,k2⟩:=h8 i x hx
   exact ⟨us,k1,VC_mono (fun _ _ => rfl) hs _ _ _ k2⟩
theorem Rel.freezeR (hr:Rel w0 Φ0 own0 N w Φ β s a) {id:Nat} {e:CT} {l:List (List e.denote)} (hl:look s.heap id = some (.rows e l none)) (hh:s.held id = false) :
  ∃ Φ',Rel w0 Φ0 own0 N w Φ' β (s.put id (.frz (.list e) l)) a ∧ Mono w Φ β s.heap w Φ' β (s.put id (.frz (.list e) l)).heap:=by
 obtain ⟨b,o,hs,h1,h2,h3,h4,h5⟩:=hr.hp.ob id _ hl
 let Φ':Nat → Prop:=fun b => Φ b ∨ RowB w β id (.rows e l none) b ∨ ((SObj.frz (.list e) l).owned = false ∧ ∃ p,β id = some (some (b,p)))
 refine ⟨Φ',hr.freezeO (o':=.frz (.list e) l) rfl rfl hl hh rfl (fun _ => Iff.rfl) (.inr ⟨b,o,h1,.inr (.inr ⟨rfl,o,h1⟩),fun i x hx => ?_⟩)⟩
 rw [nth_getElem?] at hx
 have hi:=(List.getElem?_eq_some_iff.1 hx).1
 have hlt:i < hs.length:=by have:=h5.len; omega
 obtain ⟨v,hv⟩:∃ v,hs[i]? = some v:=⟨_,List.getElem?_eq_getElem hlt⟩
 refine ⟨[v],⟨by have:=cellsAt_get hs o b h4 i _ hv; simpa [CT.size] using this,trivial⟩,?_⟩
 exact RowV_VC (h5.row i _ x hv hx (by simp)) (fun c hc => .inr (.inl ⟨hs,none,⟨rfl,h5.len,b,o,h1,h4⟩,i,_,hv,by simp,hc⟩)) (fun b h => .inl h)
theorem ent_of {k e:CT} {Φ':Nat → Prop} (hs:∀ b,Φ b → Φ' b):∀ (l:List (k.denote × List e.denote)) (es:List MapEntry),KeysR w Φ k (l.map (·.1)) es → (∀ (i:Nat) (v:Value) (r:List e.denote),(es.map (·.val))[i]? = some v → ((l.map (·.2)):List (List e.denote))[i]? = some r → VC w Φ' (.list e) r [v]) → EntR w Φ' k (.list e) false l es
 | [],es,h,_ => h
 | x :: r,es,⟨en,es',e1,e2,e5⟩,hv => by
   subst e1
   refine ⟨en,es',rfl,VC_mono (fun _ _ => rfl) hs _ _ _ e2,⟨[en.val],hv 0 en.val x.2 rfl rfl,rfl⟩,ent_of hs r es' e5 (fun i v q h1 h2 => hv (i + 1) v q (by simpa using h1) (by simpa using h2))⟩
theorem Rel.freezeM (hr:Rel w0 Φ0 own0 N w Φ β s a) {id:Nat} {k e:CT} {l:List (k.denote × List e.denote)} (hl:look s.heap id = some (.mrows k e l none)) (hh:s.held id = false) :
  ∃ Φ',Rel w0 Φ0 own0 N w Φ' β (s.put id (.map k (.list e) false l)) a ∧ Mono w Φ β s.heap w Φ' β (s.put id (.map k (.list e) false l)).heap:=by
 obtain ⟨b,es,cl,h1,h2,h3,h4,h5,h6⟩:=hr.hp.ob id _ hl
 let Φ':Nat → Prop:=fun b => Φ b ∨ RowB w β id (.mrows k e l none) b ∨ ((SObj.map k (.list e) false l).owned = false ∧ ∃ p,β id = some (some (b,p)))
 refine ⟨Φ',hr.freezeO (o':=.map k (.list e) false l) rfl rfl hl hh rfl (fun _ => Iff.rfl) ⟨b,es,cl,h1,?_,h3,?_,h5⟩⟩
 · rintro (h | h | ⟨h,_⟩)
   · exact h2 h
   · exact (hr.hp.rin id _ b hl h).2.2 id _ 0 hl rfl h1
   · cases h
 · refine ent_of (Φ:=Φ) (fun b h => .inl h) l es.toList h4 fun i v r hv hx => ?_
   exact RowV_VC (h6.row i v r hv hx (by simp)) (fun c hc => .inr (.inl ⟨_,none,⟨rfl,b,es,cl,h1,h3,rfl⟩,i,v,hv,by simp,hc⟩)) (fun b h => .inl h)
theorem pack1_sound (hr:Rel w0 Φ0 own0 N w Φ β s a) {t:CT} {l:Leaf} {v:Value} {x:t.denote} {s':St} (hv:LfR w Φ β s.heap l v) (h:pack1 t l s = some (x,s')) :
  ∃ Φ',Rel w0 Φ0 own0 N w Φ' β s' a ∧ Packed w Φ β s Φ' s' ∧ VC w Φ' t x [v]:=by
 unfold pack1 at h
 split at h
 · rename_i k k' y
   split at h
   · rename_i hk; cases h; subst hk; exact ⟨Φ,hr,.refl ..,by rw [show v = _ from hv]; rfl⟩
   · cases h
 · cases h; exact ⟨Φ,hr,.refl ..,by rw [show v = _ from hv]; rfl⟩
 · cases h; obtain ⟨sx,e1,e2⟩:=hv; exact ⟨Φ,hr,.refl ..,sx,by rw [e1],e2⟩
 · rename_i e e' l'
   split at h
   · rename_i he; subst he; cases h; exact ⟨Φ,hr,.refl ..,hv⟩
   · cases h
 · rename_i e e' l'
   split at h
   · rename_i he; subst he; cases h; exact ⟨Φ,hr,.refl ..,hv.1⟩
   · cases h
 · cases h; exact ⟨Φ,hr,.refl ..,none,0,by rw [show v = _ from hv]; rfl,Nat.le_refl _,.inl rfl⟩
 · rename_i e id rr
   obtain ⟨loc,hloc,_,hs⟩:=hv
   split at h
   · rename_i e' l' hl
     split at h
     case isFalse => cases h
     rename_i he; subst he
     cases hh:s.held id with
     | true => rw [hh] at h; cases h
     | false =>
     rw [hh] at h; cases h
     obtain ⟨Φ',h1,h2,h3⟩:=hr.freeze hl hh
     refine ⟨Φ',h1,h2,row_VC (hs _ _ (by rw [hl]; rfl)) fun b o hb => h3 b o (by rw [hloc,hb])⟩
   · rename_i e' l' hl
     split at h
     case isFalse => cases h
     rename_i he; subst he; cases h
     refine ⟨Φ,hr,.refl ..,row_VC (hs _ _ (by rw [hl]; rfl)) fun b o hb => ?_⟩
     rcases hr.hp.ob id _ hl with ⟨h1,_⟩ | ⟨b',o',h1,h2,h4⟩
     · rw [hloc,hb] at h1; cases h1
     · rw [hloc,hb] at h1; cases h1; exact ⟨h2,h4⟩
   · cases h
 · obtain ⟨hd,h⟩:=cond_none h
   cases h; exact ⟨Φ,hr,.refl ..,v,rfl,LfR_oneCell hv hd⟩
 · cases h
theorem packL_sound:∀ {t:CT} {ls:List Leaf} {vs:List Value} {Φ:Nat → Prop} {s:St} {x:t.denote} {s':St},Rel w0 Φ0 own0 N w Φ β s a → LfRs w Φ β s.heap ls vs → packL t ls s = some (x,s') →
  ∃ Φ',Rel w0 Φ0 own0 N w Φ' β s' a ∧ Packed w Φ β s Φ' s' ∧ VC w Φ' t x vs
 | .prod p q,[],vs,Φ,s,x,s',hr,hv,h => by simp [packL] at h
 | .prod p q,l :: ls,vs,Φ,s,x,s',hr,⟨v,vs',e,h1,h2⟩,h => by
   subst e
   simp only [packL] at h
   split at h
   case h_2 => cases h
   rename_i y s1 hy
   split at h
   case h_2 => cases h
   rename_i z s2 hz
   cases h
   obtain ⟨Φ1,g1,g2,g3⟩:=pack1_sound hr h1 hy
   obtain ⟨Φ2,k1,k2,k3⟩:=packL_sound g1 (LfRs_mono g2.mono _ _ h2) hz
   exact ⟨Φ2,k1,g2.trans k2,v,vs',rfl,VC_mono k2.mono.frz k2.mono.sub _ _ _ g3,k3⟩
 | .unit,ls,vs,Φ,s,x,s',hr,hv,h => by
   cases ls with
   | nil => simp [packL] at h; obtain ⟨rfl,rfl⟩:=h; exact ⟨Φ,hr,.refl ..,hv⟩
   | cons l ls => simp [packL] at h
 | .int k,ls,vs,Φ,s,x,s',hr,hv,h => by
   match ls,hv with
   | [],_ => simp [packL] at h
   | [l],⟨v,vs',e,h1,h2⟩ => cases h2; subst e; exact pack1_sound hr h1 h
   | _ :: _ :: _,_ => simp [packL] at h
 | .bool,ls,vs,Φ,s,x,s',hr,hv,h => by
   match ls,hv with
   | [],_ => simp [packL] at h
   | [l],⟨v,vs',e,h1,h2⟩ => cases h2; subst e; exact pack1_sound hr h1 h
   | _ :: _ :: _,_ => simp [packL] at h
 | .str,ls,vs,Φ,s,x,s',hr,hv,h => by
   match ls,hv with
   | [],_ => simp [packL] at h
   | [l],⟨v,vs',e,h1,h2⟩ => cases h2; subst e; exact pack1_sound hr h1 h
   | _ :: _ :: _,_ => simp [packL] at h
 | .list e,ls,vs,Φ,s,x,s',hr,hv,h => by
   match ls,hv with
   | [],_ => simp [packL] at h
   | [l],⟨v,vs',e,h1,h2⟩ => cases h2; subst e; exact pack1_sound hr h1 h
   | _ :: _ :: _,_ => simp [packL] at h
 | .sum _ _,ls,vs,Φ,s,x,s',hr,hv,h => by simp [packL] at h
 | .any p,ls,vs,Φ,s,x,s',hr,hv,h => by
   match ls,hv with
   | [],_ => simp [packL] at h
   | [l],⟨v,vs',e,h1,h2⟩ => cases h2; subst e; exact pack1_sound hr h1 h
   | _ :: _ :: _,_ => simp [packL] at h
end
section
variable {P:Program} {R:Type} {w0:World} {Φ0 own0:Nat → Prop} {N:Frm} {w:World} {Φ:Nat → Prop} {β:Loc} {s:St} {a:Act} {hp:List (Nat × SObj)}
variable {cx:Cx} {o:Oper} {next:Act → World → Prop} {Q:Exit → Act → World → Prop} {k:St → Option R} {r:R}
theorem Fz.new (w:World) (cs:Array Value) (t:TypeId):Fz (w.alloc (.cells cs t)) w.heap.size:=⟨cs,t,_,heap_alloc_new w _,Or.inl rfl⟩
theorem cellsAt_new (w:World) (cs:Array Value) (t:TypeId):cellsAt (w.alloc (.cells cs t)) w.heap.size 0 cs.toList :=
 cellsAt_of _ _ _ fun j v hj => by rw [Nat.zero_add,World.cell?_alloc_new]; simpa using hj
theorem Rel.newCells (hr:Rel w0 Φ0 own0 N w Φ β s a) {ls:List Leaf} {cs:Array Value} (t:TypeId) (h:LfRs w Φ β s.heap ls cs.toList) :
  Rel w0 Φ0 own0 N (w.alloc (.cells cs t)) Φ (β.at s.next (some (w.heap.size,0))) (s.new (.cells ls)) a ∧
   LfR (w.alloc (.cells cs t)) Φ (β.at s.next (some (w.heap.size,0))) (s.new (.cells ls)).heap (.ptr s.next 0) (.pointer (some ⟨w.heap.size,0,none⟩)):=by
 refine ⟨hr.new _ _ 0 (fun _ => RowB_none rfl) ?_,w.heap.size,by simp [Loc.at],rfl⟩
 exact ⟨w.heap.size,cs.toList,by simp [Loc.at],fun h => absurd (hr.hp.flt _ h) (by omega),Fz.new _ _ _,cellsAt_new w cs t,LfRs_mono (mono_alloc hr.hp _ _ _) _ _ h⟩
theorem Rel.newBox (hr:Rel w0 Φ0 own0 N w Φ β s a) {ls:List Leaf} {cs:Array Value} (t:TypeId) (h:LfRs w Φ β s.heap ls cs.toList) :
  Rel w0 Φ0 own0 N (w.alloc (.cells cs t)) Φ (β.at s.next (some (w.heap.size,0))) (s.new (.box ls)) a ∧
   LfR (w.alloc (.cells cs t)) Φ (β.at s.next (some (w.heap.size,0))) (s.new (.box ls)).heap (.ptr s.next 0) (.pointer (some ⟨w.heap.size,0,none⟩)):=by
 refine ⟨hr.new _ _ 0 (fun _ => RowB_none rfl) ?_,w.heap.size,by simp [Loc.at],rfl⟩
 exact ⟨w.heap.size,cs.toList,by simp [Loc.at],fun h => absurd (hr.hp.flt _ h) (by omega),Fz.new _ _ _,cellsAt_new w cs t,LfRs_mono (mono_alloc hr.hp _ _ _) _ _ h⟩
theorem alloc_step {o:Oper} {w':World} {Φ':Nat → Prop} {β':Loc} {s':St} (hN:∀ d,o.dst = some d → N.ok d)
  (hk:∀ s' a' w' Φ' β',Rel w0 Φ0 own0 N w' Φ' β' s' a' → k s' = some r → next a' w')
  {x:SVal} {v:Value} (hx:k (s'.set o.dst x) = some r) (hr':Rel w0 Φ0 own0 N w' Φ' β' s' a) (he:(execOp a.eval o).run P w = .ok (.value v) w') (hv:SVR w' Φ' β' s'.heap x v):o.wp P a w next Q :=
 upon_ok he (hk _ _ _ _ _ (hr'.set hv hN) hx)
theorem step_alloc (hcx:CxOk P cx) (hr:Rel w0 Φ0 own0 N w Φ β s a) (hN:∀ d,o.dst = some d → N.ok d) (hk:∀ s' a' w' Φ' β',Rel w0 Φ0 own0 N w' Φ' β' s' a' → k s' = some r → next a' w')
  {t:TypeId} (ho:o.op = .alloc t) (h:stepK cx o s k = some r):o.wp P a w next Q:=by
 simp only [stepK,ho] at h
 split at h
 case h_2 => cases h
 rename_i td htd
 obtain ⟨z,hz,hc⟩:=(hcx.tab t _ htd).run_zero (w:=w)
 obtain ⟨h1,h2⟩:=hr.newBox (cs:=z.cells) t (CoRs_LfRs hc)
 exact alloc_step hN hk h h1 (by simp [execOp,ho,Instr.alloc,hz,run_newVar]) h2
theorem leaves_SVR {v:SVal} {vs:List Leaf} {u:Value} (h:v.leaves = some vs) (hv:SVR w Φ β hp v u) (hd:vs.all Leaf.def = true ∨ ∃ cs,v = .agg cs):LfRs w Φ β hp vs u.cells.toList:=by
 cases v with
 | one l =>
   cases h
   rcases hd with hd | ⟨cs,e⟩
   · have:=LfR_oneCell hv (by simpa using hd)
     have hc:u.cells = #[u]:=by cases u <;> first | rfl | cases this
     rw [hc]; exact ⟨u,[],rfl,hv,rfl⟩
   · cases e
 | agg cs => cases h; obtain ⟨us,e,hl⟩:=hv; subst e; exact hl
 | tup ps => cases h
 | skip => cases h
theorem step_box (hcx:CxOk P cx) (hr:Rel w0 Φ0 own0 N w Φ β s a) (hN:∀ d,o.dst = some d → N.ok d) (hk:∀ s' a' w' Φ' β',Rel w0 Φ0 own0 N w' Φ' β' s' a' → k s' = some r → next a' w')
  {t:TypeId} {x:Operand} (ho:o.op = .box t x) (h:stepK cx o s k = some r):o.wp P a w next Q:=by
 simp only [stepK,ho] at h
 split at h
 case h_2 => cases h
 rename_i td v htd hx
 split at h
 case h_2 => cases h
 rename_i vs hl
 obtain ⟨hb,h⟩:=cond_none h
 have hd:vs.all Leaf.def = true ∨ ∃ cs,v = .agg cs:=by
  simp only [Bool.and_eq_true,Bool.or_eq_true] at hb
  rcases hb.2 with hb | hb
  · exact .inl hb
  · cases v <;> first | exact .inr ⟨_,rfl⟩ | cases hb
 obtain ⟨h1,h2⟩:=hr.newBox (cs:=(a.eval x).cells) t (leaves_SVR hl (hr.eval hx) hd)
 exact alloc_step hN hk h h1 (by simp [execOp,ho,Instr.box,run_newVar]) h2
theorem setNth_getElem? {α:Type}:∀ (l:List α) (n:Nat) (y:α) (i:Nat),(setNth l n y)[i]? = if i = n ∧ n < l.length then some y else l[i]?
 | [],n,y,i => by simp [setNth]
 | x :: l,0,y,i => by cases i <;> simp [setNth]
 | x :: l,n + 1,y,0 => by simp [setNth]
 | x :: l,n + 1,y,i + 1 => by simp [setNth,setNth_getElem? l n y i]
theorem setNth_len {α:Type}:∀ (l:List α) (n:Nat) (y:α),(setNth l n y).length = l.length
 | [],_,_ => rfl
 | _ :: _,0,_ => rfl
 | _ :: l,n + 1,y => by simp [setNth,setNth_len l n y]
theorem setMany_len:∀ (vs l:List Leaf) (off:Nat),(setMany l off vs).length = l.length
 | [],l,off => rfl
 | v :: vs,l,off => by rw [setMany,setMany_len vs,setNth_len]
theorem setMany_getElem?:∀ (vs l:List Leaf) (off:Nat) (i:Nat),off + vs.length ≤ l.length → (setMany l off vs)[i]? = if off ≤ i ∧ i < off + vs.length then vs[i - off]? else l[i]?
 | [],l,off,i,h => by simp [setMany]; intro h1 h2; omega
 | v :: vs,l,off,i,h => by
   rw [setMany,setMany_getElem? vs _ _ _ (by rw [setNth_len]; simp at h; omega),setNth_getElem?]
   by_cases h1:off + 1 ≤ i ∧ i < off + 1 + vs.length
   · rw [if_pos h1,if_pos (by simp; omega)]
     obtain ⟨j,rfl⟩:∃ j,i = off + 1 + j:=⟨i - (off + 1),by omega⟩
     simp [show off + 1 + j - (off + 1) = j by omega,show off + 1 + j - off = j + 1 by omega]
   · rw [if_neg h1]
     by_cases h2:i = off
     · subst h2; rw [if_pos ⟨rfl,by simp at h; omega⟩,if_pos (by simp)]; simp
     · rw [if_neg (by rintro ⟨h3,_⟩; exact h2 h3),if_neg (by simp; omega)]
theorem LfRs_iff {ls:List Leaf} {vs:List Value}:LfRs w Φ β hp ls vs ↔ vs.length = ls.length ∧ ∀ (i:Nat) (l:Leaf) (v:Value),ls[i]? = some l → vs[i]? = some v → LfR w Φ β hp l v:=by
 induction ls generalizing vs with
 | nil => constructor
          · intro h; cases h; simp
          · intro ⟨h,_⟩; exact List.eq_nil_of_length_eq_zero h
 | cons l ls ih =>
   constructor
   · rintro ⟨v,vs',rfl,h1,h2⟩
     obtain ⟨g1,g2⟩:=ih.1 h2
     refine ⟨by simp [g1],fun i m u hm hu => ?_⟩
     cases i with
     | zero => simp at hm hu; subst hm; subst hu; exact h1
     | succ i => exact g2 i m u (by simpa using hm) (by simpa using hu)
   · intro ⟨h1,h2⟩
     cases vs with
     | nil => simp at h1
     | cons v vs => exact ⟨v,vs,rfl,h2 0 l v (by simp) (by simp),ih.2 ⟨by simpa using h1,fun i m u hm hu => h2 (i + 1) m u (by simpa using hm) (by simpa using hu)⟩⟩
theorem LfRs_set {ls:List Leaf} {vs:List Value} {off:Nat} {xs:List Leaf} {us:List Value} (h:LfRs w Φ β hp ls vs) (hx:LfRs w Φ β hp xs us) (hle:off + xs.length ≤ ls.length)
  {vs':List Value} (hl:vs'.length = vs.length) (hg:∀ i,vs'[i]? = if off ≤ i ∧ i < off + us.length then us[i - off]? else vs[i]?):LfRs w Φ β hp (setMany ls off xs) vs':=by
 have hxl:=LfRs_len hx
 obtain ⟨h1,h2⟩:=LfRs_iff.1 h
 obtain ⟨x1,x2⟩:=LfRs_iff.1 hx
 refine LfRs_iff.2 ⟨by rw [setMany_len,hl,h1],fun i l v hi hv => ?_⟩
 rw [setMany_getElem? _ _ _ _ hle] at hi
 rw [hg i,hxl] at hv
 split at hi
 · rename_i hc; rw [if_pos hc] at hv; exact x2 _ l v hi hv
 · rename_i hc; rw [if_neg hc] at hv; exact h2 _ l v hi hv
theorem foldl_set:∀ (us:List Value) (j:Nat) (cs:Array Value) (off:Nat),let r:=(us.zipIdx j).foldl (fun cs (x:Value × Nat) => cs.setIfInBounds (off + x.2) x.1) cs
  r.size = cs.size ∧ ∀ i,r[i]? = if off + j ≤ i ∧ i < off + j + us.length ∧ i < cs.size then us[i - (off + j)]? else cs[i]?
 | [],j,cs,off => by simp; intro i h1 h2; omega
 | u :: us,j,cs,off => by
   simp only [List.zipIdx_cons,List.foldl_cons]
   obtain ⟨h1,h2⟩:=foldl_set us (j + 1) (cs.setIfInBounds (off + j) u) off
   refine ⟨by rw [h1]; simp,fun i => ?_⟩
   rw [h2 i]
   simp only [Array.size_setIfInBounds]
   by_cases h:off + (j + 1) ≤ i ∧ i < off + (j + 1) + us.length ∧ i < cs.size
   · rw [if_pos h,if_pos (by simp; omega)]
     obtain ⟨m,rfl⟩:∃ m,i = off + j + 1 + m:=⟨i - (off + j + 1),by omega⟩
     simp [show off + j + 1 + m - (off + (j + 1)) = m by omega,show off + j + 1 + m - (off + j) = m + 1 by omega]
   · rw [if_neg h]
     by_cases hi:i = off + j
     · subst hi
       by_cases hc:off + j < cs.size
       · rw [if_pos (by simp; exact hc)]; simp [hc]
       · rw [if_neg (fun h => hc h.2.2)]
         rw [Array.getElem?_eq_none (by simp; omega),Array.getElem?_eq_none (by omega)]
     · rw [Array.getElem?_setIfInBounds_ne (by omega),if_neg (by simp; omega)]
theorem fill_sound (hr:Rel w0 Φ0 own0 N w Φ β s a) (place:Nat → Option (Nat × Nat)):∀ (ps:List (Nat × Operand)) (cs:List Leaf) (vs:Array Value) (out:List Leaf),LfRs w Φ β s.heap cs vs.toList →
  fillK s.env place cs ps = some out → ∃ us,Instr.fill place vs (ps.map fun x => (x.1,a.eval x.2)) = some us ∧ LfRs w Φ β s.heap out us.toList
 | [],cs,vs,out,hv,h => by simp [fillK] at h; subst h; exact ⟨vs,by simp [Instr.fill],hv⟩
 | (i,x) :: ps,cs,vs,out,hv,h => by
   simp only [fillK] at h
   split at h
   case h_2 => cases h
   rename_i off size v hpl hx
   split at h
   case h_2 => cases h
   rename_i ls hl
   obtain ⟨hb,h⟩:=cond_none h
   simp only [Bool.and_eq_true] at hb
   obtain ⟨⟨hb1,hb2⟩,hb3⟩:=hb
   have hb1:ls.length = size:=Nat.eq_of_beq_eq_true hb1
   have hb2:off + size ≤ cs.length:=Nat.le_of_ble_eq_true hb2
   have hd:ls.all Leaf.def = true ∨ ∃ cs,v = .agg cs:=by
    simp only [Bool.or_eq_true] at hb3
    rcases hb3 with hb | hb
    · exact .inl hb
    · cases v <;> first | exact .inr ⟨_,rfl⟩ | cases hb
   have hls:=leaves_SVR hl (hr.eval hx) hd
   have hlen:=LfRs_len hls
   have hvl:=LfRs_len hv
   obtain ⟨f1,f2⟩:=foldl_set (a.eval x).cells.toList 0 vs off
   have hzip:(a.eval x).cells.zipIdx.foldl (fun cs (x:Value × Nat) => cs.setIfInBounds (off + x.2) x.1) vs = ((a.eval x).cells.toList.zipIdx 0).foldl (fun cs (x:Value × Nat) => cs.setIfInBounds (off + x.2) x.1) vs:=by
    rw [← Array.foldl_toList]; simp
   rw [← hzip] at f1 f2
   have hvs:vs.size = cs.length:=by simpa using hvl
   have hcl:(a.eval x).cells.size = ls.length:=by simpa using hlen
   obtain ⟨us,g1,g2⟩:=fill_sound hr place ps (setMany cs off ls) _ out
    (LfRs_set hv hls (by omega) (vs':=((a.eval x).cells.zipIdx.foldl (fun cs (x:Value × Nat) => cs.setIfInBounds (off + x.2) x.1) vs).toList) (by simpa using f1) (fun i => by
      have:=f2 i
      simp only [Nat.add_zero,Array.length_toList] at this
      rw [Array.getElem?_toList,this]
      by_cases hc:off ≤ i ∧ i < off + (a.eval x).cells.size
      · rw [if_pos ⟨hc.1,hc.2,by omega⟩,if_pos (by simpa using hc)]
      · rw [if_neg (fun h => hc ⟨h.1,h.2.1⟩),if_neg (by simpa using hc)]; simp)) h
   refine ⟨us,?_,g2⟩
   simp only [List.map_cons,Instr.fill,hpl]
   have hc1:((a.eval x).cells.size ≠ size || decide (off + (a.eval x).cells.size > vs.size)) = false:=by
    simp; omega
   rw [if_neg (by simpa using hc1)]
   exact g1
theorem pstep_build (hcx:CxOk P cx) (hr:Rel w0 Φ0 own0 N w Φ β s a)
  {t:TypeId} {ps:Array (Nat × Operand)} (ho:o.op = .build t ps) (h:stepK cx o s k = some r):PStep P R (fun _ => True) w Φ β s a o k r:=by
 simp only [stepK,ho] at h
 split at h
 case h_3 => cases h
 case h_2 =>
  rename_i e n agg zs htd
  split at h
  case h_2 => cases h
  rename_i cs hf
  obtain ⟨⟨i,z,hi,hsz,hz,hco⟩,_,_,en,hu,_,inf,hinf,hsz2⟩:=hcx.tab t _ htd
  obtain ⟨us,g1,g2⟩:=fill_sound hr _ ps.toList zs z.cells cs (CoRs_LfRs hco) hf
  have hb:P.built t (ps.map fun x => (x.1,a.eval x.2)).toList = some us:=by
   unfold Program.built
   simp only [hi,hu,hz,hinf,hsz2]
   rw [Array.toList_map]
   exact g1
  refine pstep h (v:=.agg us) (fun w _ => ?_) ⟨us,rfl,g2⟩
  have:=run_build (P:=P) w t (ps.map fun x => (x.1,a.eval x.2)) us hb
  simp [execOp,ho,this]
 rename_i fs zs htd
 split at h
 case h_2 => cases h
 rename_i cs hf
 obtain ⟨⟨i,z,hi,hsz,hz,hco⟩,fields,hu,hfs,_⟩:=hcx.tab t _ htd
 obtain ⟨us,g1,g2⟩:=fill_sound hr _ ps.toList zs z.cells cs (CoRs_LfRs hco) hf
 have hplaces:fields.toList.mapM (fun f => (P.info? f.type).map fun i => (f.offset,i.size)) = some (fs.map fun x => (x.1,x.2.1)):=by
  have:∀ (l:List Field) (fs:List (Nat × Nat × Bool)),l.map (fieldOf P) = fs.map some → l.mapM (fun f => (P.info? f.type).map fun i => (f.offset,i.size)) = some (fs.map fun x => (x.1,x.2.1)):=by
   intro l
   induction l with
   | nil => intro fs h; cases fs <;> simp at h ⊢
   | cons f l ih =>
     intro fs h
     cases fs with
     | nil => simp at h
     | cons x fs =>
       simp only [List.map_cons,List.cons.injEq] at h
       have hx:=h.1
       unfold fieldOf at hx
       split at hx
       case h_2 => cases hx
       rename_i inf dd hinf hdd
       simp only [Option.some.injEq] at hx
       subst hx
       simp [List.mapM_cons,hinf,ih fs h.2]
  exact this _ _ hfs
 have hb:P.built t (ps.map fun x => (x.1,a.eval x.2)).toList = some us:=by
  unfold Program.built
  simp only [hi,hu,hz,hplaces]
  rw [Array.toList_map]
  refine Eq.trans ?_ g1
  congr 1
  funext i
  simp [nth_getElem?]
 refine pstep h (v:=.agg us) (fun w _ => ?_) ⟨us,rfl,g2⟩
 have:=run_build (P:=P) w t (ps.map fun x => (x.1,a.eval x.2)) us hb
 simp [execOp,ho,this]
theorem step_build (hcx:CxOk P cx) (hr:Rel w0 Φ0 own0 N w Φ β s a) (hN:∀ d,o.dst = some d → N.ok d) (hk:∀ s' a' w' Φ' β',Rel w0 Φ0 own0 N w' Φ' β' s' a' → k s' = some r → next a' w')
  {t:TypeId} {ps:Array (Nat × Operand)} (ho:o.op = .build t ps) (h:stepK cx o s k = some r):o.wp P a w next Q :=
 (pstep_build hcx hr ho h).wp hr trivial hN hk
end
end Go.Bm
end
