import Derived.Test.YtadonikkibahnaaGreatBmD
import Derived.LoopN
import Derived.LoopNIn
import Derived.OrdersHeld
import Derived.OrdersIn
import Derived.RangeFuncCalls
import Derived.RangeFuncSeq
import Derived.RangeFuncRecord
import Derived.RangeFuncIn
import Derived.Below
import Derived.RangeFuncLeaves
section
namespace Go.Bm
set_option linter.unusedVariables false
set_option linter.unusedSimpArgs false
def plainOp (o:Oper):Bool:=match o.op with
 | .defer _ => false
 | _ => true
def plainC:Code → Bool
 | .region _ ops _ => ops.all plainOp
 | .seq a b => plainC a && plainC b
 | .cond _ a b => plainC a && plainC b
 | .block _ c => plainC c
 | .loop c => plainC c
 | .rangeFunc _ _ _ _ => false
 | _ => true
abbrev Rnd (l:Nat):Fence:=Fence.wide.inRound l
variable {P:Program} {l:Nat}
theorem upon_in {o:Oper} {a:Act} {next:Act → World → Prop} {Q:Exit → Act → World → Prop} {x:Result Next} (h:o.upon P a next Q x):o.uponIn (Rnd l) 0 P a next Q x:=by
 cases x with
 | ok x w' =>
   cases x with
   | value v => exact h
   | skip => exact h
   | defer d => exact h
   | enter f args => exact ⟨(fun h => by cases h),((callsIn_wide (n:=0)).2 h).inRound l⟩
   | row r args => exact ⟨(fun h => by cases h),fun c cs _ => let ⟨v,w',r,s⟩:=h c cs; ⟨v,w',r,stepsIn_wide.2 s⟩⟩
   | _ => exact h.elim
 | halt x w' => cases x <;> first | exact h | exact h.elim
theorem oper_in {o:Oper} (hp:plainOp o = true) {a:Act} {w:World} {next:Act → World → Prop} {Q:Exit → Act → World → Prop} (h:o.wp P a w next Q):o.wpIn (Rnd l) 0 P a w next Q:=by
 refine ⟨fun _ _ => trivial,?_⟩
 rw [Oper.semAt_eq _ _ _ (fun c e => by unfold plainOp at hp; rw [e] at hp; cases hp)]
 exact upon_in h
variable {ops:Array Oper} {Q:Exit → Act → World → Prop} {md:Region.Mode}
theorem plain_at (hp:ops.all plainOp = true) {i:Nat} {o:Oper} (h:ops[i]? = some o):plainOp o = true:=by
 rw [Array.all_eq_true] at hp
 obtain ⟨hi,rfl⟩:=Array.getElem?_eq_some_iff.1 h
 exact hp i hi
theorem wpOps_in (hp:ops.all plainOp = true) (hQ:¬ LetsOut Q):∀ (r:List Nat) (a:Act) (w:World),wpOps P ops Q r a w → wpOpsIn (Rnd l) 0 P ops Q r a w
 | [],a,w,h => h
 | i :: r,a,w,h => by
   simp only [wpOps] at h
   simp only [wpOpsIn]
   cases ho:ops[i]? with
   | none => simp only [ho] at h ⊢; exact wpOps_in hp hQ r a w h
   | some o =>
     simp only [ho] at h ⊢
     split at h
     · rename_i hw
       rw [if_pos hw]
       rcases h with h | h
       · exact Oper.wpIn_mono (fun a w => wpOps_in hp hQ r a w) (oper_in (plain_at hp ho) h)
       · exact absurd h.2 hQ
     · rename_i hw
       rw [if_neg hw]
       exact ⟨fun _ _ => trivial,wpOps_in hp hQ r _ w h⟩
theorem wpAny_in (hp:ops.all plainOp = true) (hQ:¬ LetsOut Q):∀ (n:Nat) (listed:Array Bool) (a:Act) (w:World),wpAny P md ops Q n listed a w → wpAnyIn (Rnd l) 0 P md ops Q n listed a w
 | 0,listed,a,w,h => h
 | n + 1,listed,a,w,h => by
   refine ⟨h.1,fun i hi => ?_⟩
   have h2:=h.2 i hi
   unfold wpOp at h2
   unfold wpOpIn
   cases ho:ops[i]? with
   | none => simp only [ho] at h2 ⊢; exact wpAny_in hp hQ n _ a w h2
   | some o =>
     simp only [ho] at h2 ⊢
     split at h2
     · rename_i hw
       rw [if_pos hw]
       rcases h2 with h2 | h2
       · exact Oper.wpIn_mono (fun a w => wpAny_in hp hQ n _ a w) (oper_in (plain_at hp ho) h2)
       · exact absurd h2.2 hQ
     · rename_i hw
       rw [if_neg hw]
       exact ⟨fun _ _ => trivial,wpAny_in hp hQ n _ _ w h2⟩
def Wr (rd:Option Nat) (P:Program) (c:Code) (Q:Exit → Act → World → Prop) (a:Act) (w:World):Prop:=match rd with
 | none => c.wp P Q a w
 | some l => c.wpIn (Rnd l) 0 P Q a w
def RdOk (rd:Option Nat) (Q:Exit → Act → World → Prop):Prop:=rd = none ∨ ¬ LetsOut Q
def RdC (rd:Option Nat) (c:Code):Prop:=rd = none ∨ plainC c = true
variable {rd:Option Nat} {a:Act} {w:World} {c x y:Code}
theorem Wr.mono {Q':Exit → Act → World → Prop} (h:Wr rd P c Q a w) (hq:∀ e a w,Q e a w → Q' e a w):Wr rd P c Q' a w:=by
 cases rd with
 | none => exact wp_mono h hq
 | some l => exact wpIn_mono h hq
theorem Wr.skip (h:Q .normal a w):Wr rd P .skip Q a w:=by
 cases rd with
 | none => exact wp_skip h
 | some l => exact wpIn_skip h
theorem Wr.exit {id:Nat} (h:Q (.exit id) a w):Wr rd P (.exit id) Q a w:=by
 cases rd with
 | none => exact wp_exit h
 | some l => exact wpIn_exit h
theorem Wr.ret (h:Q .ret a w):Wr rd P .ret Q a w:=by
 cases rd with
 | none => exact wp_ret h
 | some l => exact wpIn_ret h
theorem Wr.seq (h:Wr rd P x (Exit.then (Wr rd P y Q) Q) a w):Wr rd P (.seq x y) Q a w:=by
 cases rd with
 | none => exact wp_seq h
 | some l => exact wpIn_seq h
theorem Wr.cond {c:Operand} {t:Bool} (hc:a.eval c = .bool t) (h:Wr rd P (if t then x else y) Q a w):Wr rd P (.cond c x y) Q a w:=by
 cases rd with
 | none => exact wp_cond hc h
 | some l => exact wpIn_cond hc h
theorem Wr.block {id:Nat} (h:Wr rd P c (Exit.inBlock id Q) a w):Wr rd P (.block id c) Q a w:=by
 cases rd with
 | none => exact wp_block h
 | some l => exact wpIn_block h
theorem Wr.region {id:Nat} (hc:RdC rd (.region id ops false)) (hQ:RdOk rd Q) (h:wpOps P ops Q (List.range ops.size) a w):Wr rd P (.region id ops false) Q a w:=by
 cases rd with
 | none => exact wp_region h
 | some l => exact wpIn_region (wpOps_in (hc.resolve_left (by simp)) (hQ.resolve_left (by simp)) _ _ _ h)
theorem Wr.draw {id:Nat} {S:World → Prop} (hc:RdC rd (.region id ops true)) (hQ:RdOk rd Q) (hm:P.follows .mixedOrders = true) (h:wpAnyH P .any ops Q S ops.size (Array.replicate ops.size false) a { w with drawn:=w.drawn + 1 }):Wr rd P (.region id ops true) Q a w:=by
 cases rd with
 | none => exact wp_region_held hm h
 | some l => exact wpIn_region_any hm (wpAny_in (hc.resolve_left (by simp)) (hQ.resolve_left (by simp)) _ _ _ _ (wpAny_of_held _ _ _ _ h))
def Rounds (rd:Option Nat) (P:Program) (c:Code) (Q:Exit → Act → World → Prop):Nat → Act → World → Prop
 | 0,_,_ => False
 | m + 1,a,w => Wr rd P c (Exit.then (Rounds rd P c Q m) Q) a w
theorem Wr.loop (m:Nat) (h:Rounds rd P c Q m a w):Wr rd P (.loop c) Q a w:=by
 cases rd with
 | none =>
   refine wp_loop_rounds m ?_
   have key:∀ m a w,Rounds none P c Q m a w → Code.rounds P c Q m a w:=by
    intro m
    induction m with
    | zero => exact fun _ _ h => h
    | succ m ih =>
      intro a w h
      rw [rounds_succ]
      exact wp_mono h fun e a w h => by cases e <;> first | exact ih _ _ h | exact h
   exact key m a w h
 | some l =>
   refine wpIn_loop_rounds m ?_
   have key:∀ m a w,Rounds (some l) P c Q m a w → Code.roundsIn (Rnd l) 0 P c Q m a w:=by
    intro m
    induction m with
    | zero => exact fun _ _ h => h
    | succ m ih =>
      intro a w h
      rw [roundsIn_succ]
      exact wpIn_mono h fun e a w h => by cases e <;> first | exact ih _ _ h | exact h
   exact key m a w h
end Go.Bm
end
section
namespace Go.Bm
set_option linter.unusedVariables false
set_option linter.unusedSimpArgs false
structure Off (l:Nat) (w w':World):Prop where
 os:w'.os = w.os
 tape:w'.tape = w.tape
 output:w'.output = w.output
 size:w'.heap.size = w.heap.size
 block:∀ b,b ≠ l → w'.heap[b]? = w.heap[b]?
 a:∃ o,w.heap[l]? = some o ∧ offData o = true
 b:∃ o,w'.heap[l]? = some o ∧ offData o = true
theorem Off.symm {l:Nat} {w w':World} (h:Off l w w'):Off l w' w :=
 ⟨h.os.symm,h.tape.symm,h.output.symm,h.size.symm,fun b hb => (h.block b hb).symm,h.b,h.a⟩
theorem Off.put {l:Nat} {w:World} {o o':Obj} (h:w.heap[l]? = some o) (ho:offData o = true) (ho':offData o' = true):Off l w (w.putObj l o') :=
 ⟨rfl,rfl,rfl,by simp [World.putObj],fun b hb => World.putObj_heap_other hb,⟨o,h,ho⟩,⟨o',World.putObj_heap_same (Array.getElem?_eq_some_iff.1 h).1,ho'⟩⟩
theorem Off.lt {l:Nat} {w w':World} (h:Off l w w'):l < w.heap.size:=by
 obtain ⟨o,h1,_⟩:=h.a
 exact (Array.getElem?_eq_some_iff.1 h1).1
theorem offData_bsz {w:World} {b:Nat} {o:Obj} (h1:w.heap[b]? = some o) (h2:offData o = true):blockSize w b = 0:=by
 unfold blockSize
 rw [h1]
 cases o <;> first | rfl | cases h2
theorem Off.bsz {l:Nat} {w w':World} (h:Off l w w') (b:Nat):blockSize w' b = blockSize w b:=by
 by_cases e:b = l
 · subst e
   obtain ⟨o,h1,h2⟩:=h.a
   obtain ⟨o',h3,h4⟩:=h.b
   rw [offData_bsz h1 h2,offData_bsz h3 h4]
 · unfold blockSize; rw [h.block b e]
variable {l:Nat} {w w' w3 w3':World} {Φ Φ':Nat → Prop} {γ γ' β:Loc} {hp:List (Nat × SObj)}
theorem Off.mono (h:Off l w w') (hn:¬ Φ l):Mono w Φ β hp w' Φ β hp :=
 ⟨fun b hb => h.block b (fun e => hn (e ▸ hb)),fun _ h => h,fun _ _ h => h,fun _ _ _ _ h => h,fun _ b _ _ _ _ => h.bsz b⟩
theorem Off.obs (h:Off l w w') (hn:¬ Φ l) {s:St} (hr:HpR w Φ β s):HpR w' Φ β s ∧ (∀ id o c,look s.heap id = some o → (RowB w' β id o c ↔ RowB w β id o c)):=by
 obtain ⟨x,hx,hxo⟩:=h.a
 have hown:∀ id o b p,look s.heap id = some o → o.owned = true → β id = some (some (b,p)) → w'.heap[b]? = w.heap[b]?:=fun id o b p h1 h2 h3 => h.block b (fun e => by
  subst e; exact ObR.off hxo (hr.ob id o h1) h2 h3 hx)
 have hrow:∀ id o c,look s.heap id = some o → RowB w β id o c → w'.heap[c]? = w.heap[c]?:=fun id o c h1 h2 => h.block c (fun e => by
  subst e; exact RowB.off hxo (hr.ob id o h1) h2 hx)
 have hrb:∀ id o c,look s.heap id = some o → (RowB w' β id o c ↔ RowB w β id o c):=fun id o c ho => by
  cases hir:o.isRows with
  | false => exact ⟨fun hc => absurd hc (RowB_none hir),fun hc => absurd hc (RowB_none hir)⟩
  | true =>
    have hw:o.owned = true:=by cases o <;> first | rfl | cases hir
    exact ⟨RowB_of (w:=w) rfl (fun b p hb => hown id o b p ho hw hb),RowB_of (w:=w') (w':=w) rfl (fun b p hb => (hown id o b p ho hw hb).symm)⟩
 refine ⟨⟨fun id o ho => ?_,hr.lt,hr.hlt,hr.inj,fun id b p hb => by rw [h.size]; exact hr.blt id b p hb,fun b hb => by rw [h.size]; exact hr.flt b hb,
  fun id o c ho hc => ?_,fun id id' o o' c ho ho' hc hc' => hr.rinj id id' o o' c ho ho' ((hrb id o c ho).1 hc) ((hrb id' o' c ho').1 hc')⟩,hrb⟩
 · have m:Mono w Φ β s.heap w' Φ β s.heap:=h.mono hn
   cases hw:o.owned with
   | true => exact ObR_mono m (fun b p hb => hown id o b p ho hw hb) (fun _ _ _ _ h => h) (fun c hc => ⟨hrow id o c ho hc,fun h => h⟩) (hr.ob id o ho)
   | false =>
     cases o with
     | dead => trivial
     | frz e l =>
       rcases hr.ob id _ ho with ⟨h1,h2⟩ | ⟨b',o',h1,h2,h3⟩
       · exact .inl ⟨h1,h2⟩
       · exact .inr ⟨b',o',h1,h2,RowAt_mono m (m.frz _ h2) h3⟩
     | _ => cases hw
 · obtain ⟨g1,g2,g3⟩:=hr.rin id o c ho ((hrb id o c ho).1 hc)
   exact ⟨g1,by rw [h.size]; exact g2,g3⟩
theorem InstR_off (h:Off l w w') (hn:¬ Φ l) {T:Tm} {ds:List Dyn} {vs:List Value} (hi:InstR w Φ T ds vs γ):InstR w' Φ T ds vs γ ∧ (∀ b,OwnH w' γ (T.heap ds) b ↔ OwnH w γ (T.heap ds) b):=by
 obtain ⟨h1,h2⟩:=h.obs hn hi.hp
 refine ⟨⟨SVRs_mono (h.mono hn) hi.vals,h1⟩,fun b => ?_⟩
 constructor
 · rintro (g | ⟨id,ob,g1,g2⟩)
   · exact .inl g
   · exact .inr ⟨id,ob,g1,(h2 id ob b g1).1 g2⟩
 · rintro (g | ⟨id,ob,g1,g2⟩)
   · exact .inl g
   · exact .inr ⟨id,ob,g1,(h2 id ob b g1).2 g2⟩
theorem OwnH_off {T:Tm} {ds:List Dyn} {vs:List Value} {o:Obj} (hi:InstR w Φ T ds vs γ) (ho:w.heap[l]? = some o) (h2:offData o = true):¬ OwnH w γ (T.heap ds) l:=by
 rintro (⟨id,ob,p,g1,g2,g3⟩ | ⟨id,ob,g1,g2⟩)
 · exact ObR.off h2 (hi.hp.ob id ob g1) g2 g3 ho
 · exact RowB.off h2 (hi.hp.ob id ob g1) g2 ho
theorem PostR_off {T T':Tm} {ds ds':List Dyn} {vs rs:List Value} (h:Off l w w') (h3:Off l w3 w3') (he:w3'.heap[l]? = w'.heap[l]?) (hn:¬ Φ l) (hi:InstR w Φ T ds vs γ) (hi':InstR w3 Φ' T' ds' rs γ') (hp:PostR w Φ γ T ds w3 Φ' γ' T' ds') (hn':¬ Φ' l):PostR w' Φ γ T ds w3' Φ' γ' T' ds':=by
 obtain ⟨_,e1⟩:=InstR_off h hn hi
 obtain ⟨_,e2⟩:=InstR_off h3 hn' hi'
 refine ⟨⟨(h3.os.trans hp.same.os).trans h.os.symm,(h3.tape.trans hp.same.tape).trans h.tape.symm,(h3.output.trans hp.same.output).trans h.output.symm,by rw [h.size,h3.size]; exact hp.same.size,fun b hb hnb => ?_⟩,fun b hb => ?_,hp.sub,fun b hb => ?_,fun k hk => ?_⟩
 · by_cases e:b = l
   · subst e; exact he
   · rw [h3.block b e,h.block b e]
     exact hp.same.block b (by rw [← h.size]; exact hb) (fun g => hnb ((e1 b).2 g))
 · rcases hp.mem b ((e2 b).1 hb) with g | g
   · exact .inl ((e1 b).2 g)
   · exact .inr (by rw [h.size]; exact g)
 · rcases hp.fro b hb with g | g | g
   · exact .inl g
   · exact .inr (.inl ((e1 b).2 g))
   · exact .inr (.inr (by rw [h.size]; exact g))
 · have:=hp.keep k hk
   exact ⟨this.loc,this.row,fun b o r h1 h2 => by rw [h3.bsz,h.bsz]; exact this.bs b o r h1 h2⟩
end Go.Bm
end
section
open Option (bind_some)
open Bool (and_eq_true)
namespace Go.Bm
set_option linter.unusedVariables false
set_option linter.unusedSimpArgs false
def Ex.toExit:Ex → Exit
 | .norm => .normal
 | .out id => .exit id
 | .ret => .ret
def slotVals (a:Act) (slots:List Nat):List Value:=slots.map fun t => a.tmps.getD t undef
def ExR (K:Ex → List Nat → Tm → List Dyn → Prop):(l:List (Ex × List Nat × Tm)) → (exitsT l).denote → Prop
 | [],_ => False
 | [(e,slots,T')],y => K e slots T' (fromD T'.cts y)
 | (e,slots,T') :: b :: r,y => match y with
   | .inl a => K e slots T' (fromD T'.cts a)
   | .inr c => ExR K (b :: r) c
theorem ExR.mono {K K':Ex → List Nat → Tm → List Dyn → Prop} (h:∀ e l T ds,K e l T ds → K' e l T ds):∀ {l:List (Ex × List Nat × Tm)} {y:(exitsT l).denote},ExR K l y → ExR K' l y
 | [],_,g => g
 | [(e,slots,T')],y,g => h _ _ _ _ g
 | (e,slots,T') :: b :: r,.inl a,g => h _ _ _ _ g
 | (e,slots,T') :: b :: r,.inr c,g => ExR.mono h (l:=b :: r) g
def fresh (fx:List Nat) (d:Nat):Bool:=fx.all fun t => !Nat.beq t d
def Bound (fx:List Nat) (n:Nat):Code → Bool
 | .region _ ops _ => ops.toList.all fun o => match o.dst with
   | some d => Nat.blt d n && fresh fx d
   | none => true
 | .seq a b => Bound fx n a && Bound fx n b
 | .cond _ a b => Bound fx n a && Bound fx n b
 | .block _ c => Bound fx n c
 | .loop c => Bound fx n c
 | .rangeFunc _ ps assign body => (ps.toList.all fun d => Nat.blt d n && fresh fx d) && (Bound fx n assign && Bound fx n body)
 | _ => true
def BEnd (cx:Cx) (κ n:Nat) (fix:Nat → Option Value) (B:Nat) (w:World) (Φ:Nat → Prop) (γ:Loc) (ds:List Dyn) (y:(exitsT (cx.bk κ).exits).denote) (ex:Exit) (a':Act) (w':World):Prop :=
 a'.tmps.size = n ∧ (∀ t v,fix t = some v → a'.tmps.getD t undef = v) ∧
  ∃ Φ' γ',DefR B w' Φ' a'.defers ∧ ExR (fun e slots T' ds' => ex = e.toExit ∧ InstR w' Φ' T' ds' (slotVals a' slots) γ' ∧ PostR w Φ γ (cx.bk κ).ins ds w' Φ' γ' T' ds') (cx.bk κ).exits y
def RunOk (cx:Cx) (n κ:Nat) (c:Code) (run:(Exit → Act → World → Prop) → Act → World → Prop):Prop:=∀ d y,cx.rb κ d = some y → ∀ (w:World) (Φ:Nat → Prop) (a:Act) (γ:Loc) (fix:Nat → Option Value) (B:Nat),
 (∀ t v,fix t = some v → Bound [t] n c = true) → (∀ t v,fix t = some v → a.tmps.getD t undef = v) → a.tmps.size = n → B ≤ w.heap.size → DefR B w Φ a.defers →
 cx.gp w Φ → InstR w Φ (cx.bk κ).ins (fromD (cx.bk κ).ins.cts d) (slotVals a (cx.bk κ).slots) γ → run (BEnd cx κ n fix B w Φ γ (fromD (cx.bk κ).ins.cts d) y) a w
def RunOkX (cx:Cx) (n κ:Nat) (c:Code) (X:World → (Nat → Prop) → Prop) (run:(Exit → Act → World → Prop) → Act → World → Prop):Prop:=∀ d y,cx.rb κ d = some y → ∀ (w:World) (Φ:Nat → Prop) (a:Act) (γ:Loc) (fix:Nat → Option Value) (B:Nat),
 (∀ t v,fix t = some v → Bound [t] n c = true) → (∀ t v,fix t = some v → a.tmps.getD t undef = v) → a.tmps.size = n → B ≤ w.heap.size → DefR B w Φ a.defers →
 cx.gp w Φ → X w Φ → InstR w Φ (cx.bk κ).ins (fromD (cx.bk κ).ins.cts d) (slotVals a (cx.bk κ).slots) γ → run (BEnd cx κ n fix B w Φ γ (fromD (cx.bk κ).ins.cts d) y) a w
def RdEl (e:CT) (agg:Bool) (v:Value) (i:Nat) (u:Value) (W:World):Prop:=∃ b o n cap us,v = .slice (some ⟨b,o,none⟩) n cap ∧ cellsAt W b (o + i * e.size) us ∧ us.length = e.size ∧ u = valOf agg us
def Iter (P:Program) (l:Nat) (e:CT) (agg:Bool) (b:Nat):Nat → World → (Bool → World → Prop) → Prop
 | 0,W,R => R true W
 | i + 1,W,R => ∃ (xs:List e.denote) (v u:Value),W.cell? ⟨b,0,none⟩ = some v ∧ (∃ Φ,VC W Φ (.list e) xs [v]) ∧ i < xs.length ∧ RdEl e agg v i u W ∧
    YieldAt Fence.wide 0 P l #[.int .i64 i,u] W fun x W' => (x = .returned (.bool true) ∧ Iter P l e agg b i W' R) ∨ (x = .returned (.bool false) ∧ R false W')
theorem Iter.mono {P:Program} {l:Nat} {e:CT} {agg:Bool} {b:Nat} {R R':Bool → World → Prop} (h:∀ d W,R d W → R' d W):∀ {i:Nat} {W:World},Iter P l e agg b i W R → Iter P l e agg b i W R'
 | 0,W,g => h _ _ g
 | i + 1,W,⟨xs,v,u,h1,h2,h3,h4,fn,tmps,assign,body,h5,h6⟩ => ⟨xs,v,u,h1,h2,h3,h4,fn,tmps,assign,body,h5,RoundIn.mono h6 fun x W' g => by
   rcases g with ⟨g1,g2⟩ | ⟨g1,g2⟩
   · exact .inl ⟨g1,Iter.mono h g2⟩
   · exact .inr ⟨g1,h _ _ g2⟩⟩
def BackOk (P:Program) (f:Nat) (e:CT) (agg:Bool):Prop :=
 (∃ fn : Func, P.funcs[f]? = some fn ∧ (fn.name == "runtime.NumGoroutine") = false ∧ fn.body.isNone = false) ∧
 ∀ (l b:Nat) (xs:List e.denote) (v:Value) (W:World) (R:Bool → World → Prop),xs.length ≤ most → W.cell? ⟨b,0,none⟩ = some v → (∃ Φ,VC W Φ (.list e) xs [v]) → Iter P l e agg b xs.length W R →
  CallsIn Fence.wide 0 P f #[.func (.yield l) #[] #[],.pointer (some ⟨b,0,none⟩)] W fun x W' => (∃ u,x = .returned u) ∧ ∃ d,R d W'
def recOf (fn:FuncId) (tmps:Array Value) (ps:Array Tmp) (assign body:Code) (dB:Nat) (st:LoopState) (pe:Option Code):Loop:={ state:=st,pending:=pe,fn:=fn,tmps:=tmps,params:=ps,assign:=assign,body:=body,defers:=dB }
def rndAct (a:Act) (p q:Nat) (k:Nat) (u:Value):Act:={ tmps:=(a.tmps.setIfInBounds p (.int .i64 k)).setIfInBounds q u,defers:=[] }
def RangeOk (P:Program) (cx:Cx) (n κ:Nat) (g:Operand) (ps:Array Tmp) (assign body:Code):Prop:=∀ d y,cx.rb κ d = some y →
 ∀ (w:World) (Φ:Nat → Prop) (a0:Act) (γ:Loc) (fix:Nat → Option Value) (B l dB k p q f b:Nat) (fn:FuncId) (u v:Value) (e:CT) (agg:Bool) (xs:List e.denote),
 (∀ t v,fix t = some v → a0.tmps.getD t undef = v) → a0.tmps.size = n → B ≤ w.heap.size → DefR B w Φ a0.defers → cx.gp w Φ →
 ps = #[p,q] → p ≠ q → a0.eval g = .func (.func f) #[] #[.pointer (some ⟨b,0,none⟩)] → cx.it f = some (e,agg) →
 w.cell? ⟨b,0,none⟩ = some v → VC w Φ (.list e) xs [v] → k < xs.length → RdEl e agg v k u w →
 w.heap[l]? = some (.loop (recOf fn a0.tmps ps assign body dB .ready none)) → ¬ Φ l → w.heap[dB]? = some (.deferred (some [])) → ¬ Φ dB →
 InstR w Φ (cx.bk κ).ins (fromD (cx.bk κ).ins.cts d) (slotVals (rndAct a0 p q k u) (cx.bk κ).slots) γ →
 Iter P l e agg b (k + 1) w fun done w' => w'.heap[l]? = some (.loop (recOf fn a0.tmps ps assign body dB (if done then .ready else .done) (if done then none else some .ret))) ∧ w'.heap[dB]? = some (.deferred (some [])) ∧
  BEnd cx κ n fix B w Φ γ (fromD (cx.bk κ).ins.cts d) y (if done then .normal else .ret) a0 (w'.putObj l (.loop (recOf fn a0.tmps ps assign body dB .ready none)))
def BlkOk (P:Program) (cx:Cx) (n κ:Nat) (c:Code):Prop:=∀ rd,RdC rd c → RunOk cx n κ c (fun Q a w => Wr rd P c Q a w)
theorem ExR.some {K:Ex → List Nat → Tm → List Dyn → Prop}:∀ {l:List (Ex × List Nat × Tm)} {y:(exitsT l).denote},ExR K l y → ∃ e slots T ds,K e slots T ds
 | [],_,g => g.elim
 | [(e,slots,T')],y,g => ⟨_,_,_,_,g⟩
 | (e,slots,T') :: b :: r,.inl x,g => ⟨_,_,_,_,g⟩
 | (e,slots,T') :: b :: r,.inr x,g => ExR.some (l:=b :: r) g
theorem ExR.mem {K:Ex → List Nat → Tm → List Dyn → Prop}:∀ {l:List (Ex × List Nat × Tm)} {y:(exitsT l).denote},ExR K l y → ∃ e slots T ds,(e,slots,T) ∈ l ∧ K e slots T ds
 | [],_,g => g.elim
 | [(e,slots,T')],y,g => ⟨_,_,_,_,List.mem_singleton.2 rfl,g⟩
 | (e,slots,T') :: b :: r,.inl x,g => ⟨_,_,_,_,List.mem_cons_self ..,g⟩
 | (e,slots,T') :: b :: r,.inr x,g => let ⟨a,b',c,d,h,k⟩:=ExR.mem (l:=b :: r) g; ⟨a,b',c,d,List.mem_cons_of_mem _ h,k⟩
theorem BEnd.notOut {cx:Cx} {κ n B:Nat} {fix:Nat → Option Value} {w:World} {Φ:Nat → Prop} {γ:Loc} {ds:List Dyn} {y:(exitsT (cx.bk κ).exits).denote}:¬ LetsOut (BEnd cx κ n fix B w Φ γ ds y):=by
 rintro ⟨a,w',_,_,Φ',γ',_,g⟩
 obtain ⟨e,_,_,_,h,_⟩:=g.some
 cases e <;> cases h
def PieceOk (P:Program) (cx:Cx) (n κ:Nat):Code → Prop
 | .block _ (.rangeFunc g ps assign body) => RangeOk P cx n κ g ps assign body
 | c => BlkOk P cx n κ c
def heads:OrdT → List Nat
 | .only i _ => [i]
 | .alt i _ r => i :: heads r
 | _ => []
def ordB (ops:Array Oper):Bool → Nat → Array Bool → OrdT → Bool
 | m,_,listed,.done => m && (Region.ready .any ops listed).isEmpty
 | m,n + 1,listed,.take i t => m && (Region.free .any ops listed i && ((Region.ready .any ops listed).contains i && ordB ops true n (listed.setIfInBounds i true) t))
 | m,n + 1,listed,.only i t => (!m || ((Region.ready .any ops listed).contains i && (Region.ready .any ops listed).all fun j => Nat.beq j i)) && ordB ops true n (listed.setIfInBounds i true) t
 | m,n + 1,listed,.alt i t r => (!m || ((Region.ready .any ops listed).contains i && (Region.ready .any ops listed).all fun j => has (heads (.alt i t r)) j)) &&
    (ordB ops true n (listed.setIfInBounds i true) t && ordB ops false (n + 1) listed r)
 | _,0,_,_ => false
def Hints (P:Program) (cx:Cx) (n:Nat) (H:Hn):Code → Prop
 | .seq a b => Hints P cx n H a ∧ (match (firstRegion b).bind H.tk with
   | some κ => BlkOk P cx n κ b ∧ ∀ t ∈ (cx.bk κ).keep,Bound [t] n b = true
   | none => Hints P cx n H b)
 | .block id c => match H.lk id with
   | some κ => PieceOk P cx n κ (.block id c) ∧ ∀ t ∈ (cx.bk κ).keep,Bound [t] n c = true
   | none => Hints P cx n H c
 | .cond _ a b => Hints P cx n H a ∧ Hints P cx n H b
 | .loop c => Hints P cx n H c
 | .region id ops true => ∀ slots t,H.dk id = some (slots,t) → Region.noSelect ops = true ∧ ordB ops true ops.size (Array.replicate ops.size false) t = true
 | _ => True
structure AllOk (P:Program) (cx:Cx):Prop where
 ok:CxOk P cx
 fn:∀ f,∀ φ ∈ cx.keys f,FnOk P cx f φ
 mixed:P.follows .mixedOrders = true
 gpm:GpMono cx.gp
 gvo:∀ w Φ,cx.gp w Φ → GvR cx.gv w Φ
 it:∀ f e agg,cx.it f = some (e,agg) → BackOk P f e agg
section
variable {P:Program} {R:Type} {w0:World} {Φ0 own0:Nat → Prop} {N:Frm} {w w':World} {Φ Φ':Nat → Prop} {β β':Loc} {s s':St} {a a':Act} {hp:List (Nat × SObj)}
variable {cx:Cx} {H:Hn}
theorem stepK_sound [hG:GlobR cx.gp w0 Φ0 own0] (hok:AllOk P cx) {o:Oper} {next:Act → World → Prop} {Q:Exit → Act → World → Prop} {k:St → Option R} {r:R} (hr:Rel w0 Φ0 own0 N w Φ β s a) (hN:∀ d,o.dst = some d → N.ok d)
  (hk:∀ s' a' w' Φ' β',Rel w0 Φ0 own0 N w' Φ' β' s' a' → k s' = some r → next a' w') (h:stepK cx o s k = some r):o.wp P a w next Q:=by
 cases ho:o.op with
 | move x => exact step_move hr hN hk (.inl ho) h
 | assign x => exact step_move hr hN hk (.inr ho) h
 | pick c x y => exact step_pick hr hN hk ho h
 | alloc t => exact step_alloc hok.ok hr hN hk ho h
 | box t x => exact step_box hok.ok hr hN hk ho h
 | build t ps => exact step_build hok.ok hr hN hk ho h
 | buildSlice t n ps => exact step_buildSlice hok.ok hr hN hk ho h
 | load t x => exact step_load hok.ok hr hN hk ho (hok.gvo _ _ (hG.get hr)) h
 | store t x y => exact step_store hok.ok hr hN hk ho h
 | nilCheck x => exact step_nilCheck hr hN hk ho h
 | binOp op t x y t' => exact step_bin hok.ok hr hN hk ho h
 | unOp op t x => exact step_un hr hN hk ho h
 | convert t d x => exact step_convert hok.ok hr hN hk ho h
 | makeSlice t l c => exact step_makeSlice hok.ok hr hN hk ho h
 | slice t x lo hi mx =>
   cases mx with
   | none => exact step_slice hok.ok hr hN hk ho h
   | some m =>
     cases lo with
     | some _ => simp [stepK,ho] at h
     | none =>
       cases hi with
       | none => simp [stepK,ho] at h
       | some y => exact (pstep_slice3 hok.ok hr ho h).wp hr trivial hN hk
 | fieldAddr t x f => exact step_fieldAddr hok.ok hr hN hk ho h
 | field t x f => exact step_field hok.ok hr hN hk ho h
 | indexAddr t x i => exact step_indexAddr hok.ok hr hN hk ho h
 | index t x i => exact step_index hok.ok hr hN hk ho h
 | extract x i => exact step_extract hr hN hk ho h
 | makeMap t m =>
   cases m with
   | none => exact step_makeMap hok.ok hr hN hk ho h
   | some m => simp [stepK,ho] at h
 | lookup t x i b => exact step_lookup hok.ok hr hN hk ho h
 | mapUpdate t x i y => exact step_mapUpdate hok.ok hr hN hk (.inl ho) h
 | insert t x i y => exact step_mapUpdate hok.ok hr hN hk (.inr ho) h
 | makeFunc fn x y =>
   cases fn with
   | func f => exact step_makeFunc hr hN hk ho h
   | _ => simp [stepK,ho] at h
 | makeInterface t x => exact (pstep_makeIface hok.ok hr ho h).wp hr trivial hN hk
 | typeAssert x t2 t b =>
   cases b with
   | false => exact (pstep_assert hok.ok hr ho h).wp hr trivial hN hk
   | true => simp [stepK,ho] at h
 | call c =>
   cases hc:c.callee with
   | value x => exact step_call hok.fn hr hN hk ho hc h
   | invoke r m => exact step_invoke hok.ok hok.fn hr hN hk ho hc h
   | builtin b =>
     cases b with
     | len => exact step_len hok.ok hr hN hk ho hc h
     | append => exact step_append hok.ok hr hN hk ho hc h
     | clear => exact step_clear hok.ok hr hN hk ho hc h
     | delete => exact step_delete hok.ok hr hN hk ho hc h
     | copy => exact step_copy hok.ok hr hN hk ho hc h
     | max => exact step_max hr hN hk ho (.inl hc) h
     | min => exact step_max hr hN hk ho (.inr hc) h
     | _ => simp [stepK,ho,hc] at h
 | _ => simp [stepK,ho] at h
theorem getD_some {a:Act} {d:Nat} {v:Value} (h:a.tmps.getD d undef = v) (hd:d < a.tmps.size):a.tmps[d]? = some v:=by
 simp [Array.getD,hd] at h
 simp [hd,h]
theorem set_same (hr:Rel w0 Φ0 own0 N w Φ β s a) {d:Nat} {v:SVal} (hv:SVR w Φ β s.heap v (a.tmps.getD d undef)):Rel w0 Φ0 own0 N w Φ β (s.set (some d) v) a:=by
 refine ⟨fun t u hu => ?_,⟨hr.hp.ob,hr.hp.lt,hr.hp.hlt,hr.hp.inj,hr.hp.blt,hr.hp.flt,hr.hp.rin,hr.hp.rinj⟩,hr.own,hr.same,hr.fri,hr.fro,hr.size,hr.fix,hr.defers,hr.hold,hr.keep,hr.rown⟩
 simp only [St.set,look_cons] at hu
 split at hu
 · rename_i e; subst e; cases hu; exact hv
 · exact hr.env t u hu
theorem evOps_sound [hG:GlobR cx.gp w0 Φ0 own0] (hok:AllOk P cx) {ops:Array Oper} {Q:Exit → Act → World → Prop} {k:St → Option R} {r:R} (hN:∀ o ∈ ops.toList,∀ d,o.dst = some d → N.ok d)
  (hk:∀ s' a' w' Φ' β',Rel w0 Φ0 own0 N w' Φ' β' s' a' → k s' = some r → Q .normal a' w'):∀ (l:List Oper) (i:Nat) {w:World} {Φ:Nat → Prop} {β:Loc} {s:St} {a:Act},(∀ j,l[j]? = ops[i + j]?) →
  Rel w0 Φ0 own0 N w Φ β s a → evOps cx ops.toList l s k = some r → wpOps P ops Q (List.range' i l.length) a w
 | [],i,w,Φ,β,s,a,_,hr,h => by simp only [evOps] at h; simpa [wpOps] using hk _ _ _ _ _ hr h
 | o :: l,i,w,Φ,β,s,a,hl,hr,h => by
   have hoi:ops[i]? = some o:=by have:=hl 0; simpa using this.symm
   have hl':∀ j,l[j]? = ops[i + 1 + j]?:=fun j => by have:=hl (j + 1); rw [show i + 1 + j = i + (j + 1) by omega]; simpa using this
   have hmem:o ∈ ops.toList:=by rw [← Array.getElem?_toList] at hoi; exact List.mem_of_getElem? hoi
   have hoN:=hN o hmem
   have yes:∀ {s1:St},Rel w0 Φ0 own0 N w Φ β s1 a → (stepK cx o s1 fun s' => evOps cx ops.toList l s' k) = some r → o.wp P a w (wpOps P ops Q (List.range' (i + 1) l.length)) Q:=fun hr1 h1 =>
    stepK_sound hok hr1 hoN (fun s' a' w' Φ' β' hr' h' => evOps_sound hok hN hk l (i + 1) hl' hr' h') h1
   have no:∀ {s1:St},Rel w0 Φ0 own0 N w Φ β s1 a → evOps cx ops.toList l (s1.set o.dst .skip) k = some r → wpOps P ops Q (List.range' (i + 1) l.length) (a.put o.dst undef) w:=fun hr1 h1 =>
    evOps_sound hok hN hk l (i + 1) hl' (hr1.set (sv:=.skip) (v:=undef) rfl hoN) h1
   simp only [List.length_cons,List.range'_succ,wpOps,hoi]
   simp only [evOps] at h
   split at h
   · rename_i hg
     have hw:Region.wanted o (yielded ops a.tmps) = true:=by simp [Region.wanted,hg]
     rw [if_pos hw]
     exact .inl (yes hr h)
   · rename_i j want hg
     split at h
     case h_2 => cases h
     rename_i d hd
     rw [nth_getElem?,Array.getElem?_toList] at hd
     split at h
     · rename_i b hb
       have hv:a.tmps.getD d undef = .bool b:=hr.env d _ hb
       have hdl:d < a.tmps.size:=by
        rcases Nat.lt_or_ge d a.tmps.size with g | g
        · exact g
        · have:a.tmps.getD d undef = undef:=by simp [Array.getD,Nat.not_lt.2 g]
          rw [this] at hv; cases hv
       have hy:yielded ops a.tmps j = some b:=by
        simp only [yielded,hd,bind_some,getD_some hv hdl]
       have hw:Region.wanted o (yielded ops a.tmps) = (some b == some want):=by simp only [Region.wanted,hg,hy]
       have hs1:Rel w0 Φ0 own0 N w Φ β (s.set (some d) (.one (.bool b))) a:=set_same hr (by rw [hv]; rfl)
       cases b <;> cases want <;> simp only [guardK,cond_true,cond_false] at h <;> rw [hw]
       · rw [if_pos (by rfl)]; exact .inl (yes hs1 h)
       · rw [if_neg (by decide)]; exact no hs1 h
       · rw [if_neg (by decide)]; exact no hs1 h
       · rw [if_pos (by rfl)]; exact .inl (yes hs1 h)
     · rename_i hb
       have hv:a.tmps.getD d undef = undef:=hr.env d _ hb
       have hy:yielded ops a.tmps j = none:=by
        simp only [yielded,hd,bind_some]
        rcases Nat.lt_or_ge d a.tmps.size with g | g
        · rw [getD_some hv g]; rfl
        · rw [Array.getElem?_eq_none g]
       have hw:Region.wanted o (yielded ops a.tmps) = false:=by simp only [Region.wanted,hg,hy]; rfl
       rw [hw]
       exact no hr h
     · cases h
theorem lookAll_sound (hr:Rel w0 Φ0 own0 N w Φ β s a):∀ {slots:List Nat} {vs:List SVal},lookAll s.env slots = some vs → SVRs w Φ β s.heap vs (slotVals a slots)
 | [],vs,h => by simp [lookAll] at h; subst h; rfl
 | n :: r,vs,h => by
   simp only [lookAll] at h
   split at h
   · rename_i x y h1 h2; cases h; exact ⟨_,_,rfl,hr.env n x h1,lookAll_sound hr h2⟩
   · cases h
theorem leaveBlk_sound {T:Tm} {ρ:Rho} {keep:List Nat} {K:Ex → List Nat → Tm → List Dyn → Prop} {k:Ex → St → Option R} {r:R}:∀ {l:List (Ex × List Nat × Tm)} {y:(exitsT l).denote},ExR K l y → leaveBlk T ρ keep s l y k = some r →
  ∃ e slots T' ds',K e slots T' ds' ∧ k e (afterSt T ρ keep slots T' ds' s) = some r
 | [],_,g,_ => g.elim
 | [(e,slots,T')],y,g,h => ⟨_,_,_,_,g,h⟩
 | (e,slots,T') :: b :: r',.inl x,g,h => ⟨_,_,_,_,g,h⟩
 | (e,slots,T') :: b :: r',.inr x,g,h => leaveBlk_sound (l:=b :: r') g (by simpa only [leaveBlk] using h)
theorem keepEnv_look {env:List (Nat × SVal)}:∀ {l:List Nat} {t:Nat} {v:SVal},look (keepEnv env l) t = some v → t ∈ l ∧ look env t = some v
 | [],t,v,h => by cases h
 | x :: r,t,v,h => by
   simp only [keepEnv] at h
   split at h
   · rename_i u hu
     rw [look_cons] at h
     split at h
     · rename_i e; subst e; cases h; exact ⟨by simp,hu⟩
     · obtain ⟨h1,h2⟩:=keepEnv_look h; exact ⟨List.mem_cons_of_mem _ h1,h2⟩
   · obtain ⟨h1,h2⟩:=keepEnv_look h; exact ⟨List.mem_cons_of_mem _ h1,h2⟩
theorem enterBlk_runX [hG:GlobR cx.gp w0 Φ0 own0] {κ:Nat} {c:Code} {run:(Exit → Act → World → Prop) → Act → World → Prop} (hmono:∀ {Q Q':Exit → Act → World → Prop},(∀ e a w,Q e a w → Q' e a w) → ∀ a w,run Q a w → run Q' a w) {X:World → (Nat → Prop) → Prop} (hX:∀ Φ1 β1 s1,Rel w0 Φ0 own0 N w Φ1 β1 s1 a → X w Φ1) (hb:RunOkX cx N.n κ c X run) (hkeep:∀ t ∈ (cx.bk κ).keep,Bound [t] N.n c = true) (hfx:∀ t v,N.fix t = some v → Bound [t] N.n c = true) (hmlo:N.mlo ≤ w0.heap.size) {k:Ex → St → Option R} {r:R} {Q:Exit → Act → World → Prop} (hr:Rel w0 Φ0 own0 N w Φ β s a)
  (hk:∀ e s' a' w' Φ' β',Rel w0 Φ0 own0 N w' Φ' β' s' a' → k e s' = some r → Q e.toExit a' w') (h:enterBlk cx κ s k = some r):run Q a w:=by
 unfold enterBlk at h
 split at h
 case h_2 => cases h
 rename_i vs hvs
 split at h
 case h_2 => cases h
 rename_i d ρ s1 hpk
 obtain ⟨y,hy,h⟩:=Option.bind_eq_some_iff.1 h
 unfold packIn at hpk
 obtain ⟨hng,hpk⟩:=cond_none hpk
 obtain ⟨Φ1,β1,hP⟩:=packD_sound hr (lookAll_sound hr hvs) hpk
 let fix:Nat → Option Value:=fun t => if t ∈ (cx.bk κ).keep then some (a.tmps.getD t undef) else N.fix t
 have hfix:∀ t v,fix t = some v → Bound [t] N.n c = true:=by
  intro t v hv
  simp only [fix] at hv
  split at hv
  · rename_i hm; exact hkeep t hm
  · exact hfx t v hv
 have hfix2:∀ t v,fix t = some v → a.tmps.getD t undef = v:=by
  intro t v hv
  simp only [fix] at hv
  split at hv
  · cases hv; rfl
  · exact hr.fix t v hv
 refine hmono (fun ex a' w' ⟨h1,hf1,Φ',γ',h2,h3⟩ => ?_) _ _ (hb d y hy w Φ1 a _ fix N.mlo hfix hfix2 hr.size (Nat.le_trans hmlo hr.same.size) hP.rel.defers.1 (hG.get hP.rel) (hX _ _ _ hP.rel) hP.inst)
 obtain ⟨e,slots,T',ds',⟨he,hi,hpost⟩,hkk⟩:=leaveBlk_sound h3 h
 obtain ⟨β',k1,k2,k3⟩:=Rel.back hP hng hi hpost
 have ha:∀ t,t ∈ (cx.bk κ).keep → a'.tmps.getD t undef = a.tmps.getD t undef:=fun t ht => hf1 t _ (by simp only [fix]; rw [if_pos ht])
 have hfin:∀ t v,N.fix t = some v → a'.tmps.getD t undef = v:=by
  intro t v hv
  by_cases ht:t ∈ (cx.bk κ).keep
  · rw [ha t ht]; exact hr.fix t v hv
  · exact hf1 t v (by simp only [fix]; rw [if_neg ht]; exact hv)
 rw [he]
 refine hk e (afterSt (cx.bk κ).ins ρ (cx.bk κ).keep slots T' ds' s1) a' w' Φ' β' ⟨?_,⟨k1.hp.ob,k1.hp.lt,k1.hp.hlt,k1.hp.inj,k1.hp.blt,k1.hp.flt,k1.hp.rin,k1.hp.rinj⟩,k1.own,k1.same,k1.fri,k1.fro,h1,hfin,⟨h2,k1.defers.2⟩,k1.hold,k1.keep,k1.rown⟩ hkk
 intro t v hv
 simp only [afterSt,look_app] at hv
 split at hv
 · rename_i x hx
   cases hv
   exact look_zip (vs:=[]) k3 t _ hx
 · obtain ⟨g1,g2⟩:=keepEnv_look hv
   rw [ha t g1]
   exact k1.env t v g2
theorem enterBlk_run [hG:GlobR cx.gp w0 Φ0 own0] {κ:Nat} {c:Code} {run:(Exit → Act → World → Prop) → Act → World → Prop} (hmono:∀ {Q Q':Exit → Act → World → Prop},(∀ e a w,Q e a w → Q' e a w) → ∀ a w,run Q a w → run Q' a w) (hb:RunOk cx N.n κ c run) (hkeep:∀ t ∈ (cx.bk κ).keep,Bound [t] N.n c = true) (hfx:∀ t v,N.fix t = some v → Bound [t] N.n c = true) (hmlo:N.mlo ≤ w0.heap.size) {k:Ex → St → Option R} {r:R} {Q:Exit → Act → World → Prop} (hr:Rel w0 Φ0 own0 N w Φ β s a)
  (hk:∀ e s' a' w' Φ' β',Rel w0 Φ0 own0 N w' Φ' β' s' a' → k e s' = some r → Q e.toExit a' w') (h:enterBlk cx κ s k = some r):run Q a w :=
 enterBlk_runX hmono (X:=fun _ _ => True) (fun _ _ _ _ => trivial) (fun d y hy w Φ a γ fix B h1 h2 h3 h4 h5 h6 _ h7 => hb d y hy w Φ a γ fix B h1 h2 h3 h4 h5 h6 h7) hkeep hfx hmlo hr hk h
theorem loopU_sound {rd:Option Nat} {c:Code} {k:Ex → St → Option R} {r:R} {Q:Exit → Act → World → Prop} (hQo:RdOk rd Q)
  (hbody:∀ (k:Ex → St → Option R) (Q:Exit → Act → World → Prop),RdOk rd Q → ∀ {w:World} {Φ:Nat → Prop} {β:Loc} {s:St} {a:Act},Rel w0 Φ0 own0 N w Φ β s a →
    (∀ e s' a' w' Φ' β',Rel w0 Φ0 own0 N w' Φ' β' s' a' → k e s' = some r → Q e.toExit a' w') → ev cx H c s k = some r → Wr rd P c Q a w)
  (hk:∀ e s' a' w' Φ' β',Rel w0 Φ0 own0 N w' Φ' β' s' a' → k e s' = some r → Q e.toExit a' w'):∀ (n:Nat) {w:World} {Φ:Nat → Prop} {β:Loc} {s:St} {a:Act},Rel w0 Φ0 own0 N w Φ β s a →
  loopU (ev cx H c) n s k = some r → Rounds rd P c Q n a w
 | 0,w,Φ,β,s,a,hr,h => by simp [loopU] at h
 | n + 1,w,Φ,β,s,a,hr,h => by
   simp only [loopU] at h
   show Wr rd P c (Exit.then (Rounds rd P c Q n) Q) a w
   refine hbody _ (Exit.then (Rounds rd P c Q n) Q) hQo hr (fun e s' a' w' Φ' β' hr' h' => ?_) h
   cases e with
   | norm => exact loopU_sound hQo hbody hk n hr' h'
   | out id => exact hk (.out id) s' a' w' Φ' β' hr' h'
   | ret => exact hk .ret s' a' w' Φ' β' hr' h'
def FixOk (N:Frm) (c:Code):Prop:=∀ t v,N.fix t = some v → Bound [t] N.n c = true
theorem Bound_seq {fx:List Nat} {n:Nat} {x y:Code} (h:Bound fx n (.seq x y) = true):Bound fx n x = true ∧ Bound fx n y = true:=by simpa [Bound] using h
theorem Bound_cond {fx:List Nat} {n:Nat} {o:Operand} {x y:Code} (h:Bound fx n (.cond o x y) = true):Bound fx n x = true ∧ Bound fx n y = true:=by simpa [Bound] using h
theorem enterBlk_sound {rd:Option Nat} [hG:GlobR cx.gp w0 Φ0 own0] {κ:Nat} {c:Code} (hb:BlkOk P cx N.n κ c) (hc:RdC rd c) (hmlo:N.mlo ≤ w0.heap.size) (hkeep:∀ t ∈ (cx.bk κ).keep,Bound [t] N.n c = true) (hfx:∀ t v,N.fix t = some v → Bound [t] N.n c = true) {k:Ex → St → Option R} {r:R} {Q:Exit → Act → World → Prop} (hr:Rel w0 Φ0 own0 N w Φ β s a)
  (hk:∀ e s' a' w' Φ' β',Rel w0 Φ0 own0 N w' Φ' β' s' a' → k e s' = some r → Q e.toExit a' w') (h:enterBlk cx κ s k = some r):Wr rd P c Q a w :=
 enterBlk_run (run:=fun Q a w => Wr rd P c Q a w) (fun hq _ _ g => Wr.mono g hq) (hb rd hc) hkeep hfx hmlo hr hk h
end
section
variable {P:Program} {R:Type} {w0:World} {Φ0 own0:Nat → Prop} {N:Frm} {w w':World} {Φ Φ':Nat → Prop} {β β':Loc} {s s':St} {a a':Act} {hp:List (Nat × SObj)}
variable {cx:Cx} {H:Hn} {l:Nat}
theorem Rel.off (hr:Rel w0 Φ0 own0 N w Φ β s a) (h:Off l w w') (hn:¬ Φ l) (hl:w0.heap.size ≤ l) (hd:∀ x,w.heap[l]? ≠ some (.deferred x)) (hgr:N.grd = []):Rel w0 Φ0 own0 N w' Φ β s a:=by
 obtain ⟨h1,h2⟩:=h.obs hn hr.hp
 have m:Mono w Φ β s.heap w' Φ β s.heap:=h.mono hn
 refine ⟨fun t v hv => SVR_mono m v _ (hr.env t v hv),h1,hr.own,⟨h.os.trans hr.same.os,h.tape.trans hr.same.tape,h.output.trans hr.same.output,by rw [h.size]; exact hr.same.size,fun b hb hnb => ?_⟩,hr.fri,hr.fro,hr.size,hr.fix,⟨hr.defers.1.mono (fun d k1 k2 => ⟨h.block d (fun e => by subst e; exact hd _ k1),k2⟩),fun x hx => by rw [hgr] at hx; cases hx⟩,hr.hold,hr.keep' m,fun id o c ho hc => hr.rown id o c ho ((h2 id o c ho).1 hc)⟩
 rw [h.block b (by omega)]
 exact hr.same.block b hb hnb
theorem Rel.mark (hr:Rel w0 Φ0 own0 N w Φ β s a) {d:Nat} (h1:w.heap[d]? = some (.deferred (some []))) (h2:¬ Φ d) (h3:N.mlo ≤ d) (h4:{ target:=.collected d,args:=#[] } ∉ a.defers):Rel w0 Φ0 own0 N w Φ β s { a with defers:={ target:=.collected d,args:=#[] } :: a.defers } :=
 ⟨hr.env,hr.hp,hr.own,hr.same,hr.fri,hr.fro,hr.size,hr.fix,⟨⟨List.nodup_cons.2 ⟨h4,hr.defers.1.1⟩,fun m hm => by
  rcases List.mem_cons.1 hm with rfl | hm
  · exact ⟨d,rfl,h3,h1,h2⟩
  · exact hr.defers.1.2 m hm⟩,hr.defers.2⟩,hr.hold,hr.keep,hr.rown⟩
theorem getD_rnd {p q k:Nat} {u:Value} (hp:p < a.tmps.size) (hq:q < a.tmps.size) (hpq:p ≠ q) (t:Nat):(rndAct a p q k u).tmps.getD t undef = if t = q then u else if t = p then .int .i64 k else a.tmps.getD t undef:=by
 unfold rndAct
 simp only [Array.getD_eq_getD_getElem?,Array.getElem?_setIfInBounds,Array.size_setIfInBounds]
 by_cases h1:t = q
 · subst h1; simp [hq]
 · by_cases h2:t = p
   · subst h2; simp [hp,h1,Ne.symm hpq,fun e:q = t => h1 e.symm]
   · rw [if_neg (fun e:q = t => h1 e.symm),if_neg (fun e:p = t => h2 e.symm),if_neg h1,if_neg h2]
theorem lookAll_rng {p q k:Nat} {u:Value} {usv:SVal} (hp:p < a.tmps.size) (hq:q < a.tmps.size) (hpq:p ≠ q) (hu:SVR w Φ β s.heap usv u) {env:List (Nat × SVal)} :
  ∀ {slots:List Nat} {vs:List SVal},(∀ t ∈ slots,∀ v,look env t = some v → t ≠ p → t ≠ q → SVR w Φ β s.heap v (a.tmps.getD t undef)) → lookAll ((q,usv) :: (p,.one (.int .i64 (k:Nat))) :: env) slots = some vs → SVRs w Φ β s.heap vs (slotVals (rndAct a p q k u) slots)
 | [],vs,he,h => by simp [lookAll] at h; subst h; rfl
 | n :: r,vs,he,h => by
   simp only [lookAll] at h
   split at h
   case h_2 => cases h
   rename_i x y h1 h2
   cases h
   refine ⟨_,_,rfl,?_,lookAll_rng hp hq hpq hu (fun t ht => he t (List.mem_cons_of_mem _ ht)) h2⟩
   show SVR w Φ β s.heap x ((rndAct a p q k u).tmps.getD n undef)
   rw [getD_rnd hp hq hpq]
   rw [look_cons] at h1
   split at h1
   · rename_i e; subst e; cases h1; rw [if_pos rfl]; exact hu
   rename_i e1
   rw [if_neg (fun e => e1 e.symm)]
   rw [look_cons] at h1
   split at h1
   · rename_i e; subst e; cases h1; rw [if_pos rfl]; rfl
   rename_i e2
   rw [if_neg (fun e => e2 e.symm)]
   exact he n List.mem_cons_self x h1 (fun e => e2 e.symm) (fun e => e1 e.symm)
theorem rngList_sound (hr:Rel w0 Φ0 own0 N w Φ β s a) {g:Operand} {e:CT} {xs:List e.denote} {agg:Bool} (h:rngList cx s g = some ⟨e,xs,agg⟩) :
  ∃ f b v,a.eval g = .func (.func f) #[] #[.pointer (some ⟨b,0,none⟩)] ∧ cx.it f = some (e,agg) ∧ w.cell? ⟨b,0,none⟩ = some v ∧ VC w Φ (.list e) xs [v]:=by
 unfold rngList at h
 split at h
 case h_2 => cases h
 rename_i f id hg
 split at h
 case h_2 => cases h
 rename_i e' agg' hit
 split at h
 case h_2 => cases h
 rename_i e2 l2 hl
 split at h
 case isFalse => cases h
 rename_i he
 subst he
 cases h
 obtain ⟨us,vs,h1,h2,h3⟩:=hr.eval hg
 obtain ⟨b,vs2,k1,_,_,k2,k3⟩:=hr.hp.ob id _ hl
 obtain ⟨v,vs3,rfl,k4,k5⟩:=k3
 cases k5
 obtain rfl:us = #[]:=by simpa [IdsR] using h2
 obtain ⟨x,xs',e1,⟨b2,e2,rfl⟩,e3⟩:=h3
 cases e3
 rw [k1] at e2
 cases e2
 obtain rfl:vs = #[.pointer (some ⟨b,0,none⟩)]:=by rw [← Array.toList_inj]; exact e1
 refine ⟨f,b,v,?_,hit,?_,k4⟩
 · exact h1
 · have:=k2.1
   simpa using this
theorem rdEl_of {e:CT} {xs:List e.denote} {v:Value} (h:VC w Φ (.list e) xs [v]) {k:Nat} {x:e.denote} (hx:nth xs k = some x) {agg:Bool} {usv:SVal} (hu:asVal agg (unpackL e x) = some usv):∃ u,RdEl e agg v k u w ∧ SVR w Φ β s.heap usv u:=by
 obtain ⟨a,cap,h1,_,h3⟩:=h
 cases h1
 rcases h3 with rfl | ⟨b,o,rfl,_,h4⟩
 · cases k <;> cases hx
 · obtain ⟨us,g1,g2⟩:=h4 k x hx
   exact ⟨valOf agg us,⟨b,o,_,cap,us,rfl,g1,VC_len _ _ _ g2,rfl⟩,asVal_SVR hu (unpackL_LfRs e x us g2)⟩
theorem nth_lt {α:Type} {l:List α} {k:Nat} {x:α} (h:nth l k = some x):k < l.length:=by
 rw [nth_getElem?] at h; exact (List.getElem?_eq_some_iff.1 h).1
theorem rngSet_some {ps:List Nat} {i:Int} {u:SVal} {env env':List (Nat × SVal)} (h:rngSet ps i u env = some env'):∃ p q,ps = [p,q] ∧ p ≠ q ∧ env' = (q,u) :: (p,.one (.int .i64 i)) :: env:=by
 unfold rngSet at h
 split at h
 case h_2 => cases h
 rename_i p q
 obtain ⟨h1,h2⟩:=cond_none' h
 cases h2
 exact ⟨p,q,rfl,(fun e => by rw [e,Nat.beq_refl] at h1; cases h1),rfl⟩
theorem enterRng_sound [hG:GlobR cx.gp w0 Φ0 own0] (hok:AllOk P cx) {κ id:Nat} {g:Operand} {ps:Array Tmp} {assign body:Code} (hb:RangeOk P cx N.n κ g ps assign body)
  (hB:Bound [] N.n (.rangeFunc g ps assign body) = true) (hfx:∀ t v,N.fix t = some v → Bound [t] N.n (.rangeFunc g ps assign body) = true) (hgr:N.grd = []) (hmlo:N.mlo ≤ w0.heap.size) {k:Ex → St → Option R} {r:R} {Q:Exit → Act → World → Prop} (hr:Rel w0 Φ0 own0 N w Φ β s a)
  (hk:∀ e s' a' w' Φ' β',Rel w0 Φ0 own0 N w' Φ' β' s' a' → k e s' = some r → Q e.toExit a' w') (h:enterRng cx κ g ps.toList s k = some r):(Code.block id (.rangeFunc g ps assign body)).wp P Q a w:=by
 refine wp_block ((wpIn_wide (n:=0)).1 ?_)
 unfold enterRng at h
 split at h
 case h_2 => cases h
 rename_i e xs agg hrl
 obtain ⟨f,b,v,hg,hit,hcell,hvc⟩:=rngList_sound hr hrl
 obtain ⟨hlen,h⟩:=cond_none h
 have hlen:=Nat.le_of_ble_eq_true hlen
 obtain ⟨⟨fn0,hf1,hf2,hf3⟩,hback⟩:=hok.it f e agg hit
 refine wpIn_rangeFunc fun fn _ => ?_
 obtain ⟨rec,hrec⟩:∃ rec:LoopState → Option Code → Loop,rec = recOf fn a.tmps ps assign body w.heap.size:=⟨_,rfl⟩
 obtain ⟨W1,hW1⟩:∃ W1,(w.alloc (.deferred (some []))).alloc (.loop (rec .ready none)) = W1:=⟨_,rfl⟩
 have hsz0:(w.alloc (.deferred (some []))).heap.size = w.heap.size + 1:=by simp
 have hL1:W1.heap[w.heap.size + 1]? = some (.loop (rec .ready none)):=by
  rw [← hW1]; have:=heap_alloc_new (w.alloc (.deferred (some []))) (.loop (rec .ready none)); rwa [hsz0] at this
 have hK1:W1.heap[w.heap.size]? = some (.deferred (some [])):=by
  rw [← hW1,heap_alloc_lt _ _ (by rw [hsz0]; omega)]; exact heap_alloc_new w _
 have hgrow:Same w (fun _ => False) W1:=by
  rw [← hW1]; exact ((Same.refl w _).alloc _).alloc _
 have hr1:=hr.grown hgrow
 have hcell1:W1.cell? ⟨b,0,none⟩ = some v:=by
  have hlt:b < w.heap.size:=by
   unfold World.cell? at hcell
   rcases Nat.lt_or_ge b w.heap.size with g | g
   · exact g
   · simp [Array.getElem?_eq_none g] at hcell
  rw [World.cell?_of_block (w:=w) (hgrow.block b hlt (fun h => h))]; exact hcell
 have hvc1:VC W1 Φ (.list e) xs [v]:=VC_mono (fun c hc => hgrow.block c (hr.hp.flt c hc) (fun h => h)) (fun _ h => h) _ _ _ hvc
 have hnl:¬ Φ (w.heap.size + 1):=fun h => by have:=hr.hp.flt _ h; omega
 have hnd:¬ Φ w.heap.size:=fun h => by have:=hr.hp.flt _ h; omega
 refine ⟨w.heap.size + 1,[{ target:=.collected w.heap.size,args:=#[] }],W1,{ target:=.fn (.func f) #[.pointer (some ⟨b,0,none⟩)],args:=#[.func (.yield (w.heap.size + 1)) #[] #[]] },W1,f,#[.func (.yield (w.heap.size + 1)) #[] #[],.pointer (some ⟨b,0,none⟩)],W1,?_,?_,fun _ _ => trivial,?_,(fun h => by cases h),?_⟩
 · rw [← hW1,hrec]; exact run_enterLoop_outer _ _ _ _ _
 · simp only [resolve,hg]
   simp [go_sem]
 · have eg:∀ args w,(callFunc f args).run P w = .ok (.enter f args) w:=fun args w => by
    simp only [callFunc,Sem.run_bind,run_program,Result.andThen_ok,hf1,hf2,hf3,Bool.false_eq_true,if_false,Sem.run_pure]
   simp [invoke,go_sem,eg]
 have fin:∀ (done:Bool) (W2:World),W2.heap[w.heap.size + 1]? = some (.loop (rec (if done then .ready else .done) (if done then none else some .ret))) →
   (∀ w4,Off (w.heap.size + 1) (W2.putObj (w.heap.size + 1) (.loop (rec .ready none))) w4 → Q (if done then .normal else .ret) { a with defers:={ target:=.collected w.heap.size,args:=#[] } :: a.defers } w4) →
   rangePost Fence.wide 0 P (w.heap.size + 1) (Exit.inBlock id Q) { a with defers:=[{ target:=.collected w.heap.size,args:=#[] }] ++ a.defers } (.returned undef) W2:=by
  intro done W2 h1 h2
  have hend:=run_endLoop (P:=P) h1 (by cases done <;> (rw [hrec]; intro h; cases h))
  refine ⟨_,_,hend,?_⟩
  have hoff:Off (w.heap.size + 1) (W2.putObj (w.heap.size + 1) (.loop (rec .ready none))) (W2.putObj (w.heap.size + 1) (.loop { rec (if done then .ready else .done) (if done then none else some .ret) with state:=.exhausted })) :=
   ⟨rfl,rfl,rfl,by simp [World.putObj],fun c hc => by rw [World.putObj_heap_other hc,World.putObj_heap_other hc],⟨_,World.putObj_heap_same (Array.getElem?_eq_some_iff.1 h1).1,rfl⟩,⟨_,World.putObj_heap_same (Array.getElem?_eq_some_iff.1 h1).1,rfl⟩⟩
  have h3:=h2 _ hoff
  cases done with
  | true => rw [hrec]; rw [hrec] at h3; exact h3
  | false => rw [hrec]; rw [hrec] at h3; exact wpIn_ret h3
 have hmk:{ target:=.collected w.heap.size,args:=#[] } ∉ a.defers:=fun hm => by
  obtain ⟨d,h1,_,h2,_⟩:=hr.defers.1.2 _ hm
  cases h1
  have:=(Array.getElem?_eq_some_iff.1 h2).1
  omega
 have hws:=hr.same.size
 have last:∀ (W:World) (hs:W.cell? ⟨b,0,none⟩ = some v),(Iter P (w.heap.size + 1) e agg b xs.length W1 fun done W2 => W2.heap[w.heap.size + 1]? = some (.loop (rec (if done then .ready else .done) (if done then none else some .ret))) ∧
   ∀ w4,Off (w.heap.size + 1) (W2.putObj (w.heap.size + 1) (.loop (rec .ready none))) w4 → Q (if done then .normal else .ret) { a with defers:={ target:=.collected w.heap.size,args:=#[] } :: a.defers } w4) →
   CallsIn Fence.wide (0 - 1) P f #[.func (.yield (w.heap.size + 1)) #[] #[],.pointer (some ⟨b,0,none⟩)] W1 (rangePost Fence.wide 0 P (w.heap.size + 1) (Exit.inBlock id Q) { a with defers:=[{ target:=.collected w.heap.size,args:=#[] }] ++ a.defers }):=fun _ _ hit =>
  (hback (w.heap.size + 1) b xs v W1 _ hlen hcell1 ⟨Φ,hvc1⟩ hit).mono fun x W2 ⟨⟨u,hu⟩,done,h1,h2⟩ => by
    subst hu
    exact fin done W2 h1 h2
 refine last W1 hcell1 ?_
 have toW4:∀ {N2:Frm} {Φ2:Nat → Prop} {β2:Loc} {s2:St} {W2 w4:World},N2.grd = [] → N2.mlo = N.mlo → Rel w0 Φ0 own0 N2 W2 Φ2 β2 s2 a → W2.heap[w.heap.size + 1]? = some (.loop (rec .ready none)) → ¬ Φ2 (w.heap.size + 1) → W2.heap[w.heap.size]? = some (.deferred (some [])) → ¬ Φ2 w.heap.size → Off (w.heap.size + 1) W2 w4 →
   Rel w0 Φ0 own0 N2 w4 Φ2 β2 s2 { a with defers:={ target:=.collected w.heap.size,args:=#[] } :: a.defers }:=by
  intro N2 Φ2 β2 s2 W2 w4 hg0 hm0 hr2 k1 k2 k3 k4 k5
  have hr3:=hr2.off k5 k2 (by omega) (fun x hx => by rw [k1] at hx; cases hx) hg0
  exact hr3.mark (by rw [k5.block _ (by omega)]; exact k3) k4 (by rw [hm0]; omega) hmk
 cases hz:Nat.beq xs.length 0 with
 | true =>
   rw [hz] at h
   have h0:xs.length = 0:=Nat.eq_of_beq_eq_true hz
   rw [h0]
   refine ⟨hL1,fun w4 hw4 => ?_⟩
   have e1:Off (w.heap.size + 1) W1 w4:=⟨hw4.os,hw4.tape,hw4.output,hw4.size.trans (by simp [World.putObj]),fun c hc => by rw [hw4.block c hc]; exact World.putObj_heap_other hc,⟨_,hL1,rfl⟩,hw4.b⟩
   exact hk .norm s _ w4 Φ β (toW4 hgr rfl hr1 hL1 hnl hK1 hnd e1) h
 | false =>
   rw [hz] at h
   obtain ⟨x,hx,h⟩:=Option.bind_eq_some_iff.1 (show ((nth xs (xs.length - 1)).bind _) = some r from h)
   split at h
   case h_2 => cases h
   rename_i usv husv
   split at h
   case h_2 => cases h
   rename_i env henv
   split at h
   case h_2 => cases h
   rename_i vs hvs
   split at h
   case h_2 => cases h
   rename_i d ρ s1 hpk
   obtain ⟨y,hy,h⟩:=Option.bind_eq_some_iff.1 h
   obtain ⟨p,q,hps,hpq,rfl⟩:=rngSet_some henv
   have hps':ps = #[p,q]:=by rw [← Array.toList_inj]; exact hps
   have hpos:xs.length ≠ 0:=fun e => by rw [e] at hz; cases hz
   have hkl:xs.length - 1 < xs.length:=by omega
   have hbd:p < N.n ∧ q < N.n:=by
    simp only [Bound,hps,List.all_cons,List.all_nil,and_eq_true,Nat.blt_eq] at hB
    exact ⟨hB.1.1.1,hB.1.2.1.1⟩
   obtain ⟨u,hu1,hu2⟩:=rdEl_of (w:=W1) (Φ:=Φ) (β:=β) (s:=s) hvc1 hx husv
   let N2:Frm:={ N with grd:=[(w.heap.size + 1,.loop (rec .ready none)),(w.heap.size,.deferred (some []))] }
   have hr2:Rel w0 Φ0 own0 N2 W1 Φ β s a:=⟨hr1.env,hr1.hp,hr1.own,hr1.same,hr1.fri,hr1.fro,hr1.size,hr1.fix,⟨hr1.defers.1,fun z hz => by
    simp only [N2,List.mem_cons,List.not_mem_nil,or_false] at hz
    rcases hz with rfl | rfl
    · exact ⟨hL1,rfl,hnl⟩
    · exact ⟨hK1,rfl,hnd⟩⟩,hr1.hold,hr1.keep,hr1.rown⟩
   unfold packIn at hpk
   obtain ⟨hng,hpk⟩:=cond_none hpk
   obtain ⟨Φ1,β1,hP⟩:=packD_sound hr2 (lookAll_rng (a:=a) (p:=p) (q:=q) (k:=xs.length - 1) (u:=u) (by rw [hr1.size]; exact hbd.1) (by rw [hr1.size]; exact hbd.2) hpq hu2 (fun t _ v hv _ _ => hr1.env t v hv) hvs) hpk
   have hgl:=hP.rel.defers.2 (w.heap.size + 1,.loop (rec .ready none)) (by simp [N2])
   have hgd:=hP.rel.defers.2 (w.heap.size,.deferred (some [])) (by simp [N2])
   have hit2:=hb d y hy W1 Φ1 a _ (fun _ => none) N.mlo (w.heap.size + 1) w.heap.size (xs.length - 1) p q f b fn u v e agg xs (fun t v h => by cases h) hr1.size (Nat.le_trans hmlo hr1.same.size) hP.rel.defers.1 (hG.get hP.rel) hps' hpq hg hit hcell1
    (VC_mono hP.mono.frz hP.mono.sub _ _ _ hvc1) hkl hu1 (by rw [← hrec]; exact hL1) hgl.2.2 hK1 hgd.2.2 hP.inst
   rw [show xs.length - 1 + 1 = xs.length by omega] at hit2
   refine Iter.mono (fun done W2 ⟨k1,k2,k3⟩ => ?_) hit2
   rw [← hrec] at k1 k3
   refine ⟨k1,fun w4 hw4 => ?_⟩
   obtain ⟨_,_,Φ',γ',hdf,hex⟩:=k3
   obtain ⟨ex,slots,T',ds',⟨he,hi,hpost⟩,hkk⟩:=leaveBlk_sound hex h
   obtain ⟨β',g1,g2,g3⟩:=Rel.back hP hng hi hpost
   rw [he]
   have hgl2:=g1.defers.2 (w.heap.size + 1,.loop (rec .ready none)) (by simp [N2])
   have hgd2:=g1.defers.2 (w.heap.size,.deferred (some [])) (by simp [N2])
   have hfin:Rel w0 Φ0 own0 N (W2.putObj (w.heap.size + 1) (.loop (rec .ready none))) Φ' β' (afterSt (cx.bk κ).ins ρ (cx.bk κ).keep slots T' ds' s1) a:=by
    refine ⟨?_,⟨g1.hp.ob,g1.hp.lt,g1.hp.hlt,g1.hp.inj,g1.hp.blt,g1.hp.flt,g1.hp.rin,g1.hp.rinj⟩,g1.own,g1.same,g1.fri,g1.fro,hr.size,hr.fix,⟨g1.defers.1,fun z hz => by rw [hgr] at hz; cases hz⟩,g1.hold,g1.keep,g1.rown⟩
    intro t v hv
    simp only [afterSt,look_app] at hv
    split at hv
    · rename_i x hx
      cases hv
      exact look_zip (vs:=[]) g3 t _ hx
    · obtain ⟨m1,m2⟩:=keepEnv_look hv
      exact g1.env t v m2
   exact hk ex _ _ w4 Φ' β' (toW4 hgr rfl hfin hgl2.1 hgl2.2.2 hgd2.1 hgd2.2.2 hw4) hkk
end
def Free (w:World) (β:Loc) (s:St) (b:Nat):Prop:=(∃ id ob p,look s.heap id = some ob ∧ ob.owned = true ∧ β id = some (some (b,p)) ∧ s.held id = false) ∨ ∃ id ob,look s.heap id = some ob ∧ RowB w β id ob b ∧ s.held id = false
def Fut (w:World) (β:Loc) (s:St) (w':World):Prop:=Same w (Free w β s) w'
section
variable {P:Program} {R:Type} {w0:World} {Φ0 own0:Nat → Prop} {N:Frm} {w w':World} {Φ Φ':Nat → Prop} {β β':Loc} {s s':St} {a a':Act}
variable {cx:Cx}
theorem evOp1_sound [hG:GlobR cx.gp w0 Φ0 own0] (hok:AllOk P cx) {ops:Array Oper} {i:Nat} {o:Oper} (hoi:ops[i]? = some o) (hN:∀ d,o.dst = some d → N.ok d) {K:Act → World → Prop} {Q:Exit → Act → World → Prop} {k:St → Option R} {r:R}
  (hr:Rel w0 Φ0 own0 N w Φ β s a) (hk:∀ s' a' w' Φ' β',Rel w0 Φ0 own0 N w' Φ' β' s' a' → k s' = some r → K a' w') (h:evOp1 cx ops.toList o s k = some r):wpOp P ops Q i K a w:=by
 have yes:∀ {s1:St},Rel w0 Φ0 own0 N w Φ β s1 a → stepK cx o s1 k = some r → o.wp P a w K Q:=fun hr1 h1 => stepK_sound hok hr1 hN hk h1
 have no:∀ {s1:St},Rel w0 Φ0 own0 N w Φ β s1 a → k (s1.set o.dst .skip) = some r → K (a.put o.dst undef) w:=fun hr1 h1 => hk _ _ _ _ _ (hr1.set (sv:=.skip) (v:=undef) rfl hN) h1
 unfold wpOp
 simp only [hoi]
 unfold evOp1 at h
 split at h
 · rename_i hg
   have hw:Region.wanted o (yielded ops a.tmps) = true:=by simp [Region.wanted,hg]
   rw [if_pos hw]
   exact .inl (yes hr h)
 · rename_i j want hg
   split at h
   case h_2 => cases h
   rename_i d hd
   rw [nth_getElem?,Array.getElem?_toList] at hd
   split at h
   · rename_i b hb
     have hv:a.tmps.getD d undef = .bool b:=hr.env d _ hb
     have hdl:d < a.tmps.size:=by
      rcases Nat.lt_or_ge d a.tmps.size with g | g
      · exact g
      · have:a.tmps.getD d undef = undef:=by simp [Array.getD,Nat.not_lt.2 g]
        rw [this] at hv; cases hv
     have hy:yielded ops a.tmps j = some b:=by
      simp only [yielded,hd,bind_some,getD_some hv hdl]
     have hw:Region.wanted o (yielded ops a.tmps) = (some b == some want):=by simp only [Region.wanted,hg,hy]
     have hs1:Rel w0 Φ0 own0 N w Φ β (s.set (some d) (.one (.bool b))) a:=set_same hr (by rw [hv]; rfl)
     cases b <;> cases want <;> simp only [guardK,cond_true,cond_false] at h <;> rw [hw]
     · rw [if_pos (by rfl)]; exact .inl (yes hs1 h)
     · rw [if_neg (by decide)]; exact no hs1 h
     · rw [if_neg (by decide)]; exact no hs1 h
     · rw [if_pos (by rfl)]; exact .inl (yes hs1 h)
   · rename_i hb
     have hv:a.tmps.getD d undef = undef:=hr.env d _ hb
     have hy:yielded ops a.tmps j = none:=by
      simp only [yielded,hd,bind_some]
      rcases Nat.lt_or_ge d a.tmps.size with g | g
      · rw [getD_some hv g]; rfl
      · rw [Array.getElem?_eq_none g]
     have hw:Region.wanted o (yielded ops a.tmps) = false:=by simp only [Region.wanted,hg,hy]; rfl
     rw [hw]
     exact no hr h
   · cases h
theorem fut_block (hr:Rel w0 Φ0 own0 N w Φ β s a) {id:Nat} {ob:SObj} {b p:Nat} (hl:look s.heap id = some ob) (ho:(ob.owned = true ∧ s.held id = true) ∨ ∃ e l,ob = .frz e l) (hb:β id = some (some (b,p))) (hw:Fut w β s w'):w'.heap[b]? = w.heap[b]?:=by
 refine hw.block b (hr.hp.blt _ _ _ hb) ?_
 rintro (⟨id',ob',q,h1,h2,h3,h4⟩ | ⟨id',ob',h1,h2,h4⟩)
 · rcases ho with ⟨ho,hh⟩ | ⟨e,l,rfl⟩
   · have:=hr.hp.inj id id' ob ob' b p q hl h1 ho h2 hb h3
     subst this
     rw [hh] at h4; cases h4
   · rcases hr.hp.ob id _ hl with ⟨k1,_⟩ | ⟨b',o',k1,k2,_⟩
     · rw [hb] at k1; cases k1
     · rw [hb] at k1; cases k1
       exact ObR_notΦ (hr.hp.ob id' ob' h1) h2 h3 k2
 · obtain ⟨g1,g2,g3⟩:=hr.hp.rin id' ob' b h1 h2
   rcases ho with ⟨ho,hh⟩ | ⟨e,l,rfl⟩
   · exact g3 id ob p hl ho hb
   · rcases hr.hp.ob id _ hl with ⟨k1,_⟩ | ⟨b',o',k1,k2,_⟩
     · rw [hb] at k1; cases k1
     · rw [hb] at k1; cases k1
       exact g1 k2
theorem fut_frz (hr:Rel w0 Φ0 own0 N w Φ β s a) {b:Nat} (hb:Φ b) (hw:Fut w β s w'):w'.heap[b]? = w.heap[b]?:=by
 refine hw.block b (hr.hp.flt b hb) ?_
 rintro (⟨id',ob',q,h1,h2,h3,h4⟩ | ⟨id',ob',h1,h2,h4⟩)
 · exact ObR_notΦ (hr.hp.ob id' ob' h1) h2 h3 hb
 · exact (hr.hp.rin id' ob' b h1 h2).1 hb
theorem stable_pstep (hok:AllOk P cx) {o:Oper} {k:St → Option R} {r:R} {s0:St} (hh:s0.hold = s.hold) (hhp:s0.heap = s.heap) (hr:Rel w0 Φ0 own0 N w Φ β s0 a) (hst:stableOp o s0 = true) (h:stepK cx o s0 k = some r):PStep P R (Fut w β s) w Φ β s0 a o k r:=by
 have up:PStep P R (fun _ => True) w Φ β s0 a o k r → PStep P R (Fut w β s) w Φ β s0 a o k r:=fun ⟨x,v,h1,h2,h3⟩ => ⟨x,v,fun w' _ => h1 w' trivial,h2,h3⟩
 have hfut:∀ w',Fut w β s w' → Fut w β s0 w':=fun w' h => by
  refine ⟨h.os,h.tape,h.output,h.size,fun b hb hn => h.block b hb ?_⟩
  rintro (⟨id,ob,p,h1,h2,h3,h4⟩ | ⟨id,ob,h1,h2,h4⟩)
  · exact hn (.inl ⟨id,ob,p,by rw [hhp]; exact h1,h2,h3,by unfold St.held at *; rw [hh]; exact h4⟩)
  · exact hn (.inr ⟨id,ob,by rw [hhp]; exact h1,h2,by unfold St.held at *; rw [hh]; exact h4⟩)
 cases ho:o.op with
 | move x => exact up (pstep_move hr (.inl ho) h)
 | assign x => exact up (pstep_move hr (.inr ho) h)
 | pick c x y => exact up (pstep_pick hr ho h)
 | build t ps => exact up (pstep_build hok.ok hr ho h)
 | makeFunc fn x y =>
   cases fn with
   | func f => exact up (pstep_makeFunc hr ho h)
   | _ => simp [stepK,ho] at h
 | load t x =>
   have hng:gOp cx.gv x = none:=by
    cases x <;> first | rfl | (simp [stableOp,ho,evalO] at hst; done)
   have hnt:∀ id i e l,evalO s0.env x = some (.one (.eptr id i 0)) → look s0.heap id = some (.rows e l none) → s0.held id = true:=by
    intro id i e l hv hl
    simp only [stableOp,ho,hv,hl,Bool.or_false] at hst
    exact hst
   refine pstep_load (K:=fun b => ∀ w',Fut w β s w' → w'.heap[b]? = w.heap[b]?) hok.ok hr (fun w' h b hb => hb w' h) ho (fun v hv => ?_) hnt hng h
   simp only [stableOp,ho,hv] at hst
   have hld:∃ td,loadK s0 td v (fun r => k (s0.set o.dst r)) = some r:=by
    simp only [stepK,ho,hng] at h
    split at h
    · rename_i td u htd hx
      rw [hv] at hx; cases hx
      rcases loadS_cases h with h | ⟨id,i,e,l,n,row,e1,e2,e3,e4,e5⟩
      · exact ⟨td,h⟩
      · subst e1
        have:=hnt id i e l hv e2
        unfold takeK at e5
        rw [this] at e5
        cases e5
    · cases h
   obtain ⟨td,hld⟩:=hld
   unfold LoadsIn
   split
   · rename_i id off
     intro b p hb w' hw'
     simp only at hst
     cases hl:look s0.heap id with
     | none => simp [loadK,hl] at hld
     | some ob =>
       have hown:ob.owned = true:=by
        cases ob with
        | dead => simp [loadK,hl] at hld
        | frz _ _ => simp [loadK,hl] at hld
        | _ => rfl
       exact fut_block hr hl (.inl ⟨hown,hst⟩) hb (hfut w' hw')
   · rename_i id i off
     intro b p hb w' hw'
     simp only [Bool.or_eq_true] at hst
     cases hl:look s0.heap id with
     | none => simp [loadK,hl] at hld
     | some ob =>
       refine fut_block hr hl ?_ hb (hfut w' hw')
       cases ob with
       | dead => simp [loadK,hl] at hld
       | frz e l => exact .inr ⟨e,l,rfl⟩
       | _ =>
         rcases hst with g | g
         · exact .inl ⟨rfl,g⟩
         · rw [hl] at g; cases g
   · intro b hb w' hw'
     exact fut_frz hr hb (hfut w' hw')
   · trivial
 | lookup t x i b =>
   refine pstep_lookup (K:=fun b => ∀ w',Fut w β s w' → w'.heap[b]? = w.heap[b]?) hok.ok hr (fun w' h b hb => hb w' h) ho (fun id hv b p hb hm w' hw' => ?_) (fun id kt e l hv hl => by simp only [stableOp,ho,hv] at hst; exact hst) h
   obtain ⟨c,v,g,l,hm⟩:=hm
   simp only [stableOp,ho,hv] at hst
   exact fut_block hr hm (.inl ⟨rfl,hst⟩) hb (hfut w' hw')
 | nilCheck x => exact up (pstep_nilCheck hr ho h)
 | binOp op t x y t' => exact up (pstep_bin hok.ok hr ho h)
 | unOp op t x => exact up (pstep_un hr ho h)
 | convert t d x => exact up (pstep_convert hok.ok hr ho hst h)
 | slice t x lo hi mx =>
   cases mx with
   | none => exact up (pstep_slice hok.ok hr ho h)
   | some m => simp [stableOp,ho] at hst
 | fieldAddr t x f => exact up (pstep_fieldAddr hok.ok hr ho h)
 | field t x f => exact up (pstep_field hok.ok hr ho h)
 | indexAddr t x i => exact up (pstep_indexAddr hok.ok hr ho h)
 | index t x i => exact up (pstep_index hok.ok hr ho h)
 | extract x i => exact up (pstep_extract hr ho h)
 | call c =>
   simp only [stableOp,ho] at hst
   split at hst
   · rename_i hc
     refine up (pstep_len hok.ok hr ho hc (fun x id hx he => ?_) h)
     rw [hx] at hst
     simp only [he] at hst
     cases hst
   · rename_i hc; exact up (pstep_max hr ho (.inl hc) h)
   · rename_i hc; exact up (pstep_max hr ho (.inr hc) h)
   · cases hst
 | _ => simp [stableOp,ho] at hst
theorem stable_yields (hok:AllOk P cx) {ops:Array Oper} {o:Oper} {k:St → Option R} {r:R} (hN:∀ d,o.dst = some d → N.ok d) (hr:Rel w0 Φ0 own0 N w Φ β s a)
  (h:evOpT cx ops.toList o s k = some r):∃ v s',YieldsIf P ops (Fut w β s) o v a ∧ Rel w0 Φ0 own0 N w Φ β s' (a.put o.dst v) ∧ s'.heap = s.heap ∧ s'.hold = s.hold ∧ k s' = some r:=by
 have yes:∀ {s1:St},Rel w0 Φ0 own0 N w Φ β s1 a → s1.hold = s.hold → s1.heap = s.heap → stepT cx o s1 k = some r → Region.wanted o (yielded ops a.tmps) = true →
   ∃ v s',YieldsIf P ops (Fut w β s) o v a ∧ Rel w0 Φ0 own0 N w Φ β s' (a.put o.dst v) ∧ s'.heap = s.heap ∧ s'.hold = s.hold ∧ k s' = some r:=by
  intro s1 hr1 hh hhp h2 hw
  unfold stepT at h2
  obtain ⟨h1,h2⟩:=cond_none h2
  obtain ⟨x,v,g1,g2,g3⟩:=stable_pstep hok hh hhp hr1 h1 h2
  exact ⟨v,_,.inl ⟨hw,g1⟩,hr1.set g2 hN,by cases o.dst <;> exact hhp,by cases o.dst <;> exact hh,g3⟩
 have no:∀ {s1:St},Rel w0 Φ0 own0 N w Φ β s1 a → s1.heap = s.heap → s1.hold = s.hold → k (s1.set o.dst .skip) = some r → Region.wanted o (yielded ops a.tmps) = false → ∃ v s',YieldsIf P ops (Fut w β s) o v a ∧ Rel w0 Φ0 own0 N w Φ β s' (a.put o.dst v) ∧ s'.heap = s.heap ∧ s'.hold = s.hold ∧ k s' = some r :=
  fun hr1 h2 h3 h1 hw => ⟨undef,_,.inr ⟨hw,rfl⟩,hr1.set (sv:=.skip) (v:=undef) rfl hN,by cases o.dst <;> exact h2,by cases o.dst <;> exact h3,h1⟩
 unfold evOpT at h
 split at h
 · rename_i hg
   exact yes hr rfl rfl h (by simp [Region.wanted,hg])
 · rename_i j want hg
   split at h
   case h_2 => cases h
   rename_i d hd
   rw [nth_getElem?,Array.getElem?_toList] at hd
   split at h
   · rename_i b hb
     have hv:a.tmps.getD d undef = .bool b:=hr.env d _ hb
     have hdl:d < a.tmps.size:=by
      rcases Nat.lt_or_ge d a.tmps.size with g | g
      · exact g
      · have:a.tmps.getD d undef = undef:=by simp [Array.getD,Nat.not_lt.2 g]
        rw [this] at hv; cases hv
     have hy:yielded ops a.tmps j = some b:=by
      simp only [yielded,hd,bind_some,getD_some hv hdl]
     have hw:Region.wanted o (yielded ops a.tmps) = (some b == some want):=by simp only [Region.wanted,hg,hy]
     have hs1:Rel w0 Φ0 own0 N w Φ β (s.set (some d) (.one (.bool b))) a:=set_same hr (by rw [hv]; rfl)
     cases b <;> cases want <;> simp only [guardK,cond_true,cond_false] at h
     · exact yes hs1 rfl rfl h (by rw [hw]; rfl)
     · exact no hs1 rfl rfl h (by rw [hw]; decide)
     · exact no hs1 rfl rfl h (by rw [hw]; decide)
     · exact yes hs1 rfl rfl h (by rw [hw]; rfl)
   · rename_i hb
     have hv:a.tmps.getD d undef = undef:=hr.env d _ hb
     have hy:yielded ops a.tmps j = none:=by
      simp only [yielded,hd,bind_some]
      rcases Nat.lt_or_ge d a.tmps.size with g | g
      · rw [getD_some hv g]; rfl
      · rw [Array.getElem?_eq_none g]
     exact no hr rfl rfl h (by simp only [Region.wanted,hg,hy]; rfl)
   · cases h
theorem wpAnyH_weak {md:Region.Mode} {ops:Array Oper} {Q:Exit → Act → World → Prop} {S S':World → Prop} (h:∀ w,S w → S' w):∀ (n:Nat) (listed:Array Bool) (a:Act) (w:World),wpAnyH P md ops Q S n listed a w → wpAnyH P md ops Q S' n listed a w
 | 0,_,_,_,g => g
 | n + 1,listed,a,w,g => ⟨g.1,fun i hi => wpOp_mono (fun a' w' g' => ⟨h _ g'.1,wpAnyH_weak h n _ a' w' g'.2⟩) (g.2 i hi)⟩
def drawN (own0:Nat → Prop) (w0:World) (N:Frm) (w:World) (β:Loc) (s:St):Frm :=
 ⟨N.n,N.fix,fun id x => s.held id = true ∧ β id = some x ∧ ∀ b p,x = some (b,p) → own0 b ∨ w0.heap.size ≤ b ∨ ∃ p,N.held id (some (b,p)),N.kid,w,β,s.heap,N.mlo,N.grd⟩
theorem rowsFree_spec {s:St} (h:rowsFree s = true) {id:Nat} {o:SObj} (hl:look s.heap id = some o) (hr:o.isRows = true):s.held id = false:=by
 have mem:∀ (l:List (Nat × SObj)),look l id = some o → id ∈ keysOf l:=by
  intro l
  induction l with
  | nil => intro h; cases h
  | cons x l ih =>
    obtain ⟨j,y⟩:=x
    intro h
    rw [look_cons] at h
    simp only [keysOf,List.mem_cons]
    split at h
    · rename_i e; exact .inl e.symm
    · exact .inr (ih h)
 have:=List.all_eq_true.1 h id (mem _ hl)
 rw [hl] at this
 cases o <;> first | simpa using this | cases hr
theorem Rel.rebase (hr:Rel w0 Φ0 own0 N w Φ β s a) (hrf:rowsFree s = true):Rel w Φ (Free w β s) (drawN own0 w0 N w β s) w Φ β s a:={
 rown:=fun id o c h1 h2 => .inl (.inr ⟨id,o,h1,h2,by
  cases hir:o.isRows with
  | false => exact absurd h2 (RowB_none hir)
  | true => exact rowsFree_spec hrf h1 hir⟩)
 env:=hr.env
 hp:=hr.hp
 own:=fun id o b p h1 h2 h3 => by
  cases hh:s.held id with
  | false => exact .inl (.inl ⟨id,o,p,h1,h2,h3,hh⟩)
  | true => exact .inr (.inr ⟨p,hh,h3,fun b' p' e => by cases e; exact hr.own id o b p h1 h2 h3⟩)
 same:=.refl _ _
 fri:=fun _ h => h
 fro:=fun _ h => .inl h
 size:=hr.size
 fix:=hr.fix
 defers:=hr.defers
 hold:=fun id x h => ⟨h.1,h.2.1⟩
 keep:=fun id _ => .refl .. }
theorem Rel.free_mine (hr:Rel w0 Φ0 own0 N w Φ β s a) {b:Nat} (h:Free w β s b):own0 b ∨ w0.heap.size ≤ b:=by
 rcases h with ⟨id,ob,p,h1,h2,h3,h4⟩ | ⟨id,ob,h1,h2,_⟩
 · exact hr.mine h4 h1 h2 h3
 · exact hr.rown id ob b h1 h2
theorem Rel.unbase (hr:Rel w0 Φ0 own0 N w Φ β s a) (h:Rel w Φ (Free w β s) (drawN own0 w0 N w β s) w' Φ' β' s' a'):Rel w0 Φ0 own0 N w' Φ' β' s' a':={
 rown:=fun id o c h1 h2 => by
  rcases h.rown id o c h1 h2 with g | g
  · exact hr.free_mine g
  · exact .inr (Nat.le_trans hr.same.size g)
 env:=h.env
 hp:=h.hp
 own:=fun id o b p h1 h2 h3 => by
  rcases h.own id o b p h1 h2 h3 with g | g | ⟨q,g⟩
  · exact (hr.free_mine g).elim .inl (fun g => .inr (.inl g))
  · exact .inr (.inl (Nat.le_trans hr.same.size g))
  · exact g.2.2 b q rfl
 same:=⟨h.same.os.trans hr.same.os,h.same.tape.trans hr.same.tape,h.same.output.trans hr.same.output,Nat.le_trans hr.same.size h.same.size,fun b h1 h2 => by
  rw [h.same.block b (Nat.lt_of_lt_of_le h1 hr.same.size) (fun g => by rcases hr.free_mine g with g | g; exact h2 g; omega),hr.same.block b h1 h2]⟩
 fri:=fun b hb => h.fri b (hr.fri b hb)
 fro:=fun b hb => by
  rcases h.fro b hb with g | g | g
  · exact hr.fro b g
  · exact .inr (hr.free_mine g)
  · exact .inr (.inr (Nat.le_trans hr.same.size g))
 size:=h.size
 fix:=h.fix
 defers:=h.defers
 hold:=fun id x hx => h.hold id x ⟨(hr.hold id x hx).1,(hr.hold id x hx).2,fun b p e => by subst e; exact .inr (.inr ⟨p,hx⟩)⟩
 keep:=fun id hid => (hr.keep id hid).trans (h.keep id hid) }
theorem fut_fut (hr:Rel w Φ (Free w β s) (drawN own0 w0 N w β s) w' Φ' β' s' a') {w2:World} (h:Fut w' β' s' w2):Fut w β s w2 :=
 ⟨h.os.trans hr.same.os,h.tape.trans hr.same.tape,h.output.trans hr.same.output,Nat.le_trans hr.same.size h.size,fun b h1 h2 => by
  rw [h.block b (Nat.lt_of_lt_of_le h1 hr.same.size) (fun g => by rcases hr.free_mine g with g | g; exact h2 g; omega),hr.same.block b h1 h2]⟩
theorem GlobR.rebase {gp:World → (Nat → Prop) → Prop} (hG:GlobR gp w0 Φ0 own0) (hr:Rel w0 Φ0 own0 N w Φ β s a):GlobR gp w Φ (Free w β s):={
 mono:=hG.mono
 at0:=hG.get hr
 out:=fun b hb => ⟨by
  rintro (⟨id',ob',q,h1,h2,h3,h4⟩ | ⟨id',ob',h1,h2,h4⟩)
  · exact ObR_notΦ (hr.hp.ob id' ob' h1) h2 h3 hb
  · exact (hr.hp.rin id' ob' b h1 h2).1 hb,hr.hp.flt b hb⟩ }
theorem evOrd_sound [hG:GlobR cx.gp w0 Φ0 own0] (hok:AllOk P cx) {ops:Array Oper} {Q:Act → World → Prop} {k:St → Option R} {r:R} (hsel:Region.noSelect ops = true) (hN:∀ (i:Nat) (o:Oper),ops[i]? = some o → ∀ d,o.dst = some d → N.ok d)
  (hk:∀ s' a' w' Φ' β',Rel w0 Φ0 own0 N w' Φ' β' s' a' → k s' = some r → Q a' w'):∀ (t:OrdT) (n:Nat) (listed:Array Bool) {w:World} {Φ:Nat → Prop} {β:Loc} {s:St} {a:Act},Rel w0 Φ0 own0 N w Φ β s a → evOrd cx ops.toList t s k = some r →
  (ordB ops true n listed t = true → wpAnyH P .any ops (fun e a w => e = .normal ∧ Q a w) (Fut w β s) n listed a w) ∧
  (∀ m,n = m + 1 → ordB ops false n listed t = true → ∀ i ∈ heads t,wpOp P ops (fun e a w => e = .normal ∧ Q a w) i (fun a' w' => Fut w β s w' ∧ wpAnyH P .any ops (fun e a w => e = .normal ∧ Q a w) (Fut w β s) m (listed.setIfInBounds i true) a' w') a w)
 | .done,n,listed,w,Φ,β,s,a,hr,h => by
   simp only [evOrd] at h
   refine ⟨fun hb => ?_,fun m _ hb => by simp [ordB] at hb⟩
   simp only [ordB,Bool.true_and,List.isEmpty_iff] at hb
   exact wpAnyH_done hb ⟨rfl,hk _ _ _ _ _ hr h⟩ n
 | .take i t,n,listed,w,Φ,β,s,a,hr,h => by
   refine ⟨fun hb => ?_,fun m e hb => by subst e; simp [ordB] at hb⟩
   cases n with
   | zero => simp [ordB] at hb
   | succ n =>
     simp only [ordB,Bool.true_and,and_eq_true] at hb
     simp only [evOrd] at h
     split at h
     case h_2 => cases h
     rename_i o ho
     have hoi:ops[i]? = some o:=by rw [nth_getElem?,Array.getElem?_toList] at ho; exact ho
     obtain ⟨v,s',g1,g2,g3,g4,g5⟩:=stable_yields hok (hN i o hoi) hr h
     have ih:=(evOrd_sound hok hsel hN hk t n _ g2 g5).1 hb.2.2
     refine wpAnyH_take hoi hsel hb.1 hb.2.1 (fun c a w h => by cases h.1) g1 (.refl _ _) ?_
     refine wpAnyH_weak (fun w' hw' => ?_) n _ _ _ ih
     exact ⟨hw'.os,hw'.tape,hw'.output,hw'.size,fun b hb hn => hw'.block b hb (fun hF => hn (by
      rcases hF with ⟨id,ob,p,a1,a2,a3,a4⟩ | ⟨id,ob,a1,a2,a4⟩
      · exact .inl ⟨id,ob,p,by rw [← g3]; exact a1,a2,a3,by unfold St.held at *; rw [← g4]; exact a4⟩
      · exact .inr ⟨id,ob,by rw [← g3]; exact a1,a2,by unfold St.held at *; rw [← g4]; exact a4⟩))⟩
 | .only i t,n,listed,w,Φ,β,s,a,hr,h => by
   have step:∀ m,n = m + 1 → ordB ops true m (listed.setIfInBounds i true) t = true → wpOp P ops (fun e a w => e = .normal ∧ Q a w) i (fun a' w' => Fut w β s w' ∧ wpAnyH P .any ops (fun e a w => e = .normal ∧ Q a w) (Fut w β s) m (listed.setIfInBounds i true) a' w') a w:=by
    intro m e hb
    simp only [evOrd] at h
    split at h
    case h_2 => cases h
    rename_i o ho
    have hoi:ops[i]? = some o:=by rw [nth_getElem?,Array.getElem?_toList] at ho; exact ho
    obtain ⟨hrf,h⟩:=cond_none h
    haveI:=hG.rebase hr
    refine evOp1_sound (N:=drawN own0 w0 N w β s) hok hoi (hN i o hoi) (hr.rebase hrf) (fun s' a' w' Φ' β' hr' h' => ⟨hr'.same,?_⟩) h
    exact wpAnyH_weak (fun w2 h2 => fut_fut hr' h2) m _ _ _ ((evOrd_sound hok hsel hN hk t m _ (hr.unbase hr') h').1 hb)
   refine ⟨fun hb => ?_,fun m e hb j hj => ?_⟩
   · cases n with
     | zero => simp [ordB] at hb
     | succ n =>
       simp only [ordB,Bool.not_true,Bool.false_or,and_eq_true] at hb
       refine wpAnyH_all (rs:=Region.ready .any ops listed) rfl (fun e => by rw [e] at hb; simp at hb) fun j hj => ?_
       have:=List.all_eq_true.1 hb.1.2 j hj
       have:=Nat.eq_of_beq_eq_true this
       subst this
       exact step n rfl hb.2
   · subst e
     simp only [ordB,Bool.not_false,Bool.true_or,Bool.true_and] at hb
     simp only [heads,List.mem_singleton] at hj
     subst hj
     exact step m rfl hb
 | .alt i t q,n,listed,w,Φ,β,s,a,hr,h => by
   have parts:rowsFree s = true ∧ ∃ o,ops[i]? = some o ∧ evOp1 cx ops.toList o s (fun s' => evOrd cx ops.toList t s' k) = some r ∧ evOrd cx ops.toList q s k = some r:=by
    simp only [evOrd] at h
    split at h
    case h_2 => cases h
    rename_i o ho
    have hoi:ops[i]? = some o:=by rw [nth_getElem?,Array.getElem?_toList] at ho; exact ho
    obtain ⟨hrf,h⟩:=cond_none h
    obtain ⟨h1,h2⟩:=agree_some h
    exact ⟨hrf,o,hoi,h1,h2⟩
   obtain ⟨hrf,o,hoi,h1,h2⟩:=parts
   have all:∀ m,n = m + 1 → ordB ops true m (listed.setIfInBounds i true) t = true → ordB ops false (m + 1) listed q = true → ∀ j ∈ heads (.alt i t q),wpOp P ops (fun e a w => e = .normal ∧ Q a w) j (fun a' w' => Fut w β s w' ∧ wpAnyH P .any ops (fun e a w => e = .normal ∧ Q a w) (Fut w β s) m (listed.setIfInBounds j true) a' w') a w:=by
    intro m e b1 b2 j hj
    subst e
    simp only [heads,List.mem_cons] at hj
    rcases hj with hj | hj
    · subst hj
      haveI:=hG.rebase hr
      refine evOp1_sound (N:=drawN own0 w0 N w β s) hok hoi (hN j o hoi) (hr.rebase hrf) (fun s' a' w' Φ' β' hr' h' => ⟨hr'.same,?_⟩) h1
      exact wpAnyH_weak (fun w2 h2 => fut_fut hr' h2) m _ _ _ ((evOrd_sound hok hsel hN hk t m _ (hr.unbase hr') h').1 b1)
    · exact (evOrd_sound hok hsel hN hk q (m + 1) listed hr h2).2 m rfl b2 j hj
   refine ⟨fun hb => ?_,fun m e hb j hj => ?_⟩
   · cases n with
     | zero => simp [ordB] at hb
     | succ n =>
       simp only [ordB,Bool.not_true,Bool.false_or,and_eq_true] at hb
       refine wpAnyH_all (rs:=Region.ready .any ops listed) rfl (fun e => by rw [e] at hb; simp at hb) fun j hj => ?_
       exact all n rfl hb.2.1 hb.2.2 j (has_mem.1 (List.all_eq_true.1 hb.1.2 j hj))
   · subst e
     simp only [ordB,Bool.not_false,Bool.true_or,Bool.true_and,and_eq_true] at hb
     exact all m rfl hb.1 hb.2 j hj
theorem Rel.hold_any (hr:Rel w0 Φ0 own0 N w Φ β s a) (hno:∀ id b,¬ N.held id b) (l:List Nat):Rel w0 Φ0 own0 N w Φ β { s with hold:=l } a :=
 ⟨hr.env,⟨hr.hp.ob,hr.hp.lt,hr.hp.hlt,hr.hp.inj,hr.hp.blt,hr.hp.flt,hr.hp.rin,hr.hp.rinj⟩,hr.own,hr.same,hr.fri,hr.fro,hr.size,hr.fix,hr.defers,fun id x h => absurd h (hno id x),hr.keep,hr.rown⟩
theorem evDraw_sound {rd:Option Nat} [hG:GlobR cx.gp w0 Φ0 own0] (hok:AllOk P cx) (hno:∀ id b,¬ N.held id b) {id:Nat} {ops:Array Oper} {Q:Exit → Act → World → Prop} {k:St → Option R} {r:R} {slots:List Nat} {t:OrdT} (hN:∀ o ∈ ops.toList,∀ d,o.dst = some d → N.ok d)
  (hc:Region.noSelect ops = true ∧ ordB ops true ops.size (Array.replicate ops.size false) t = true) (hcc:RdC rd (.region id ops true)) (hr:Rel w0 Φ0 own0 N w Φ β s a)
  (hk:∀ s' a' w' Φ' β',Rel w0 Φ0 own0 N w' Φ' β' s' a' → k s' = some r → Q .normal a' w') (h:evDraw cx slots t ops.toList s k = some r):Wr rd P (.region id ops true) Q a w:=by
 unfold evDraw at h
 have h1:=(evOrd_sound (Q:=fun a w => Q .normal a w) hok hc.1 (fun i o hi d hd => hN o (by rw [← Array.getElem?_toList] at hi; exact List.mem_of_getElem? hi) d hd)
  (fun s' a' w' Φ' β' hr' h' => hk _ a' w' Φ' β' (hr'.hold_any hno []) h') t ops.size (Array.replicate ops.size false) ((hr.hold_any hno _).drew) h).1 hc.2
 refine Wr.mono (Wr.draw hcc (.inr (fun ⟨_,_,h⟩ => by cases h.1)) hok.mixed h1) fun e a w h => ?_
 rw [h.1]; exact h.2
end
section
variable {P:Program} {R:Type} {w0:World} {Φ0 own0:Nat → Prop} {N:Frm} {w w' w2:World} {Φ Φ' Φ2:Nat → Prop} {β γ γ' γ2:Loc} {s s':St} {a:Act} {hp:List (Nat × SObj)}
variable {cx:Cx} {H:Hn}
theorem RdC.seq1 {rd:Option Nat} {x y:Code} (h:RdC rd (.seq x y)):RdC rd x:=h.imp id fun g => by simp only [plainC,and_eq_true] at g; exact g.1
theorem RdC.seq2 {rd:Option Nat} {x y:Code} (h:RdC rd (.seq x y)):RdC rd y:=h.imp id fun g => by simp only [plainC,and_eq_true] at g; exact g.2
theorem ev_sound {rd:Option Nat} [hG:GlobR cx.gp w0 Φ0 own0] (hok:AllOk P cx) (hno:∀ id b,¬ N.held id b) (hmlo:N.mlo ≤ w0.heap.size) (hgr:N.grd = []):∀ (c:Code) {k:Ex → St → Option R} {r:R} {Q:Exit → Act → World → Prop} {w:World} {Φ:Nat → Prop} {β:Loc} {s:St} {a:Act},RdC rd c → RdOk rd Q → Bound [] N.n c = true → FixOk N c → Hints P cx N.n H c →
  Rel w0 Φ0 own0 N w Φ β s a → (∀ e s' a' w' Φ' β',Rel w0 Φ0 own0 N w' Φ' β' s' a' → k e s' = some r → Q e.toExit a' w') → ev cx H c s k = some r → Wr rd P c Q a w
 | .skip,k,r,Q,w,Φ,β,s,a,hrd,hQ,_,_,_,hr,hk,h => Wr.skip (hk .norm _ _ _ _ _ hr h)
 | .region id ops false,k,r,Q,w,Φ,β,s,a,hrd,hQ,hb,hf,_,hr,hk,h => by
   refine Wr.region hrd hQ ?_
   have:=evOps_sound (Q:=Q) hok (ops:=ops) (fun o ho d hd => by
    have:=List.all_eq_true.1 hb o ho
    simp only [hd,and_eq_true] at this
    refine ⟨by rw [← Nat.blt_eq]; exact this.1,?_⟩
    cases hfd:N.fix d with
    | none => rfl
    | some v =>
      have:=List.all_eq_true.1 (hf d v hfd) o ho
      simp [hd,fresh] at this) (fun s' a' w' Φ' β' hr' h' => hk .norm s' a' w' Φ' β' hr' h') ops.toList 0 (fun j => by simp) hr h
   rwa [Array.length_toList,← List.range_eq_range'] at this
 | .region id ops true,k,r,Q,w,Φ,β,s,a,hrd,hQ,hb,hf,hh,hr,hk,h => by
   simp only [ev] at h
   split at h
   · rename_i slots t hd
     refine evDraw_sound hok hno (fun o ho d hd => ?_) (hh slots t hd) hrd hr (fun s' a' w' Φ' β' hr' h' => hk .norm s' a' w' Φ' β' hr' h') h
     have:=List.all_eq_true.1 hb o ho
     simp only [hd,and_eq_true] at this
     refine ⟨by rw [← Nat.blt_eq]; exact this.1,?_⟩
     cases hfd:N.fix d with
     | none => rfl
     | some v =>
       have:=List.all_eq_true.1 (hf d v hfd) o ho
       simp [hd,fresh] at this
   · cases h
 | .seq x y,k,r,Q,w,Φ,β,s,a,hrd,hQ,hb,hf,hh,hr,hk,h => by
   simp only [Bound,and_eq_true] at hb
   simp only [ev] at h
   refine Wr.seq (ev_sound hok hno hmlo hgr x hrd.seq1 (Q:=Exit.then (Wr rd P y Q) Q) hQ hb.1 (fun t v h => (Bound_seq (hf t v h)).1) hh.1 hr (fun e s' a' w' Φ' β' hr' h' => ?_) h)
   cases e with
   | norm =>
     have hh2:=hh.2
     show Wr rd P y Q a' w'
     simp only at h'
     split at h'
     · rename_i κ hκ
       rw [hκ] at hh2
       exact enterBlk_sound hh2.1 hrd.seq2 hmlo hh2.2 (fun t v h => (Bound_seq (hf t v h)).2) hr' hk h'
     · rename_i hκ
       rw [hκ] at hh2
       exact ev_sound hok hno hmlo hgr y hrd.seq2 hQ hb.2 (fun t v h => (Bound_seq (hf t v h)).2) hh2 hr' hk h'
   | out id => exact hk (.out id) s' a' w' Φ' β' hr' h'
   | ret => exact hk .ret s' a' w' Φ' β' hr' h'
 | .cond c x y,k,r,Q,w,Φ,β,s,a,hrd,hQ,hb,hf,hh,hr,hk,h => by
   simp only [Bound,and_eq_true] at hb
   simp only [ev] at h
   split at h
   case h_3 => cases h
   case h_2 =>
    rename_i hc
    obtain ⟨t,hcv⟩:∃ t,a.eval c = .bool t:=hr.eval hc
    obtain ⟨h1,h2⟩:=agree_some h
    refine Wr.cond hcv ?_
    cases t with
    | true => exact ev_sound hok hno hmlo hgr x hrd.seq1 hQ hb.1 (fun t v h => (Bound_cond (hf t v h)).1) hh.1 hr hk h1
    | false => exact ev_sound hok hno hmlo hgr y hrd.seq2 hQ hb.2 (fun t v h => (Bound_cond (hf t v h)).2) hh.2 hr hk h2
   rename_i t hc
   have hcv:a.eval c = .bool t:=hr.eval hc
   refine Wr.cond hcv ?_
   cases t with
   | true => exact ev_sound hok hno hmlo hgr x hrd.seq1 hQ hb.1 (fun t v h => (Bound_cond (hf t v h)).1) hh.1 hr hk h
   | false => exact ev_sound hok hno hmlo hgr y hrd.seq2 hQ hb.2 (fun t v h => (Bound_cond (hf t v h)).2) hh.2 hr hk h
 | .block id c,k,r,Q,w,Φ,β,s,a,hrd,hQ,hb,hf,hh,hr,hk,h => by
   simp only [ev] at h
   simp only [Hints] at hh
   split at h
   · rename_i κ hκ
     rw [hκ] at hh
     have other:BlkOk P cx N.n κ (.block id c) → enterBlk cx κ s k = some r → Wr rd P (.block id c) Q a w:=fun h1 h2 => enterBlk_sound h1 hrd hmlo hh.2 hf hr hk h2
     cases c with
     | rangeFunc g ps assign body =>
       cases rd with
       | some l => exact absurd (hrd.resolve_left (by simp)) (by simp [plainC])
       | none => exact enterRng_sound hok hh.1 hb hf hgr hmlo hr hk h
     | _ => exact other hh.1 h
   · rename_i hκ
     rw [hκ] at hh
     refine Wr.block (ev_sound hok hno hmlo hgr c hrd (Q:=Exit.inBlock id Q) hQ hb hf hh hr (fun e s' a' w' Φ' β' hr' h' => ?_) h)
     cases e with
     | norm => exact hk .norm s' a' w' Φ' β' hr' h'
     | ret => exact hk .ret s' a' w' Φ' β' hr' h'
     | out id' =>
       show (if id' = id then Q .normal a' w' else Q (.exit id') a' w')
       simp only at h'
       cases hbq:Nat.beq id' id with
       | true => rw [hbq] at h'; rw [if_pos (Nat.eq_of_beq_eq_true hbq)]; exact hk .norm s' a' w' Φ' β' hr' h'
       | false => rw [hbq] at h'; rw [if_neg (fun e => by rw [e,Nat.beq_refl] at hbq; cases hbq)]; exact hk (.out id') s' a' w' Φ' β' hr' h'
 | .loop c,k,r,Q,w,Φ,β,s,a,hrd,hQ,hb,hf,hh,hr,hk,h => by
   simp only [ev] at h
   exact Wr.loop 16 (loopU_sound hQ (fun k Q hQ' {w Φ β s a} hr hk h => ev_sound hok hno hmlo hgr c hrd hQ' hb hf hh hr hk h) hk 16 hr h)
 | .exit id,k,r,Q,w,Φ,β,s,a,hrd,hQ,_,_,_,hr,hk,h => Wr.exit (hk (.out id) _ _ _ _ _ hr h)
 | .ret,k,r,Q,w,Φ,β,s,a,hrd,hQ,_,_,_,hr,hk,h => Wr.ret (hk .ret _ _ _ _ _ hr h)
 | .rangeFunc _ _ _ _,k,r,Q,w,Φ,β,s,a,hrd,hQ,_,_,_,hr,hk,h => by simp [ev] at h
 | .scope _,k,r,Q,w,Φ,β,s,a,hrd,hQ,_,_,_,hr,hk,h => by simp [ev] at h
 | .label _,k,r,Q,w,Φ,β,s,a,hrd,hQ,_,_,_,hr,hk,h => by simp [ev] at h
 | .goto _,k,r,Q,w,Φ,β,s,a,hrd,hQ,_,_,_,hr,hk,h => by simp [ev] at h
 | .refuse _,k,r,Q,w,Φ,β,s,a,hrd,hQ,_,_,_,hr,hk,h => by simp [ev] at h
def resRun (tmps:Array Value):ResultVar → Sem Value
 | .tmp t => pure (tmps.getD t undef)
 | .cell a t => do loadVar t (← asAddr (tmps.getD a undef))
theorem results_run (hok:AllOk P cx) (hr:Rel w0 Φ0 own0 N w Φ β s a):∀ (rs:List ResultVar) (vs:List SVal),resultsOf cx s rs = some vs → ∃ us,(rs.mapM (resRun a.tmps)).run P w = .ok us w ∧ SVRs w Φ β s.heap vs us
 | [],vs,h => by simp [resultsOf] at h; subst h; exact ⟨[],by simp,rfl⟩
 | x :: rs,vs,h => by
   simp only [resultsOf] at h
   split at h
   case h_2 => cases h
   rename_i v vs' hx hxs
   cases h
   obtain ⟨us,g1,g2⟩:=results_run hok hr rs vs' hxs
   cases x with
   | tmp t =>
     simp only [resultOf] at hx
     exact ⟨a.tmps.getD t undef :: us,by simp [List.mapM_cons,resRun,g1],_,_,rfl,hr.env t v hx,g2⟩
   | cell t ty =>
     simp only [resultOf] at hx
     split at hx
     case h_2 => cases hx
     rename_i td p htd hp'
     obtain ⟨x,b,o,val,k1,k2,k3,k4⟩:=loadK_run (hok.ok.tab ty _ htd) hr (hr.env t p hp') hx
     cases k4
     exact ⟨val :: us,by simp [List.mapM_cons,resRun,k1,asAddr,k2,g1],val,us,rfl,k3,g2⟩
theorem retVal_eq (us:List Value):(if h:us.toArray.size = 1 then us.toArray[0] else .tuple us.toArray) = retVal us:=by
 match us with
 | [] => rfl
 | [v] => rfl
 | _ :: _ :: _ => rfl
theorem run_results (fn:Func) (tmps:Array Value) {us:List Value} (h:(fn.results.toList.mapM (resRun tmps)).run P w = .ok us w):(results fn tmps).run P w = .ok (retVal us) w:=by
 have e:results fn tmps = (do let vs ← fn.results.mapM (resRun tmps); pure (if h:vs.size = 1 then vs[0] else .tuple vs)):=by
  unfold results
  congr 1
 rw [e,Array.mapM_eq_mapM_toList]
 simp only [Sem.run_bind,Sem.run_map,h,Result.andThen_ok,Sem.run_pure]
 rw [retVal_eq]
theorem InstR_len {T:Tm} {ds:List Dyn} {vs:List Value} (h:InstR w Φ T ds vs γ):vs.length = T.slots.length:=by
 have h1:=SVRs_len h.vals
 have:∀ (l:List SlT) (ds:List Dyn),(instSls l ds).1.length = l.length:=by
  intro l
  induction l with
  | nil => intro ds; rfl
  | cons x l ih => intro ds; simp [instSls,ih]
 rw [h1]; exact this _ _
structure Shut (w:World) (D:Nat → Prop) (w2:World):Prop where
 os:w2.os = w.os
 tape:w2.tape = w.tape
 output:w2.output = w.output
 size:w2.heap.size = w.heap.size
 block:∀ b,¬ D b → w2.heap[b]? = w.heap[b]?
theorem Rel.shut (hr:Rel w0 Φ0 own0 N w Φ β s a) (hgr:N.grd = []) {D:Nat → Prop} (hD:∀ d,D d → w0.heap.size ≤ d ∧ (∃ x,w.heap[d]? = some (.deferred x)) ∧ ¬ Φ d) (h:Shut w D w2):Rel w0 Φ0 own0 N w2 Φ β s { a with defers:=[] }:=by
 have hfrz:∀ b,Φ b → w2.heap[b]? = w.heap[b]?:=fun b hb => h.block b (fun hd => (hD b hd).2.2 hb)
 have hown:∀ id o b p,look s.heap id = some o → o.owned = true → β id = some (some (b,p)) → w2.heap[b]? = w.heap[b]?:=fun id o b p h1 h2 h3 => h.block b (fun hd => by
  obtain ⟨_,⟨x,hx⟩,_⟩:=hD b hd
  exact (hr.hp.ob id o h1).kind h2 h3 hx)
 have hrow:∀ id o c,look s.heap id = some o → RowB w β id o c → w2.heap[c]? = w.heap[c]?:=fun id o c h1 h2 => h.block c (fun hd => by
  obtain ⟨_,⟨x,hx⟩,_⟩:=hD c hd
  exact RowB.kind (hr.hp.ob id o h1) h2 hx)
 have m:Mono w Φ β s.heap w2 Φ β s.heap:=⟨hfrz,fun _ h => h,fun _ _ h => h,fun _ _ _ _ h => h,fun id b o r hb hrr => by
  have:w2.heap[b]? = w.heap[b]?:=by
   cases ho:look s.heap id with
   | none => rw [ho] at hrr; cases hrr
   | some ob =>
     cases hw:ob.owned with
     | true => exact hown id ob b o ho hw hb
     | false =>
       cases ob with
       | frz e l =>
         rcases hr.hp.ob id _ ho with ⟨h1,_⟩ | ⟨b',o',h1,h2,_⟩
         · rw [h1] at hb; cases hb
         · rw [h1] at hb; cases hb; exact hfrz _ h2
       | dead => rw [ho] at hrr; cases hrr
       | _ => cases hw
  unfold blockSize; rw [this]⟩
 have hrb:∀ {id:Nat} {o:SObj} {c:Nat},look s.heap id = some o → RowB w2 β id o c → RowB w β id o c:=fun {id o c} ho hc => by
  cases hir:o.isRows with
  | false => exact absurd hc (RowB_none hir)
  | true =>
    have hw:o.owned = true:=by cases o <;> first | rfl | cases hir
    exact RowB_of (w:=w) rfl (fun b p hb => hown id o b p ho hw hb) hc
 refine ⟨fun t v hv => SVR_mono m v _ (hr.env t v hv),⟨fun id o ho => ?_,hr.hp.lt,hr.hp.hlt,hr.hp.inj,fun id b p hb => by rw [h.size]; exact hr.hp.blt id b p hb,fun b hb => by rw [h.size]; exact hr.hp.flt b hb,
   fun id o c ho hc => ⟨(hr.hp.rin id o c ho (hrb ho hc)).1,by rw [h.size]; exact (hr.hp.rin id o c ho (hrb ho hc)).2.1,(hr.hp.rin id o c ho (hrb ho hc)).2.2⟩,fun id id' o o' c ho ho' hc hc' => hr.hp.rinj id id' o o' c ho ho' (hrb ho hc) (hrb ho' hc')⟩,
  hr.own,⟨h.os.trans hr.same.os,h.tape.trans hr.same.tape,h.output.trans hr.same.output,by rw [h.size]; exact hr.same.size,fun b hb hn => ?_⟩,hr.fri,hr.fro,hr.size,hr.fix,⟨.nil _ _ _,fun x hx => by rw [hgr] at hx; cases hx⟩,hr.hold,hr.keep' m,fun id o c ho hc => hr.rown id o c ho (hrb ho hc)⟩
 · cases hw:o.owned with
   | true => exact ObR_mono m (fun b p hb => hown id o b p ho hw hb) (fun _ _ _ _ h => h) (fun c hc => ⟨hrow id o c ho hc,fun h => h⟩) (hr.hp.ob id o ho)
   | false =>
     cases o with
     | dead => trivial
     | frz e l =>
       rcases hr.hp.ob id _ ho with ⟨h1,h2⟩ | ⟨b',o',h1,h2,h3⟩
       · exact .inl ⟨h1,h2⟩
       · exact .inr ⟨b',o',h1,h2,RowAt_mono m (hfrz _ h2) h3⟩
     | _ => cases hw
 · rw [h.block b (fun hd => by have:=(hD b hd).1; omega)]
   exact hr.same.block b hb hn
theorem leaves_marks {fn:Func} {tmps:Array Value} {Rp:Ending → World → Prop}:∀ (ms:List Deferred) (w:World),ms.Nodup → (∀ m ∈ ms,∃ d,m = { target:=.collected d,args:=#[] } ∧ w.heap[d]? = some (.deferred (some []))) →
  (∀ w2,Shut w (fun d => { target:=.collected d,args:=#[] } ∈ ms) w2 → LeavesIn Fence.wide 0 P fn tmps Rp [] .returning w2) → LeavesInM Fence.wide 0 P fn tmps Rp ms .returning w
 | [],w,_,_,h => h w ⟨rfl,rfl,rfl,rfl,fun _ _ => rfl⟩
 | m :: ms,w,hn,hm,h => by
   obtain ⟨d,rfl,hd⟩:=hm m List.mem_cons_self
   have hlt:d < w.heap.size:=(Array.getElem?_eq_some_iff.1 hd).1
   refine ⟨by simp,.inl ⟨d,_,rfl,run_takeDeferred hd,leaves_marks ms _ (List.nodup_cons.1 hn).2 (fun m' hm' => ?_) (fun w2 hw2 => h w2 ?_)⟩⟩
   · obtain ⟨d',rfl,hd'⟩:=hm m' (List.mem_cons_of_mem _ hm')
     refine ⟨d',rfl,(World.putObj_heap_other ?_).trans hd'⟩
     intro e
     subst e
     exact (List.nodup_cons.1 hn).1 hm'
   · refine ⟨hw2.os,hw2.tape,hw2.output,hw2.size.trans (by simp [World.putObj]),fun b hb => ?_⟩
     rw [hw2.block b (fun hb' => hb (List.mem_cons_of_mem _ hb'))]
     exact World.putObj_heap_other (fun e => hb (by rw [e]; exact List.mem_cons_self))
theorem fn_sound (hok:AllOk P cx) {f φ:Nat} {fn:Func} {c:Code} (hfn:P.funcs[f]? = some fn) (hb:fn.body = some c) (hlen:(cx.kin φ).slots.length ≤ fn.ntmps) (hB:Bound [] fn.ntmps c = true)
  (hH:Hints P cx fn.ntmps H c):∀ d y,evFn cx H φ c fn.results.toList d = some y → ∀ (w:World) (Φ:Nat → Prop) (vs:List Value) (γ:Loc),cx.gp w Φ → InstR w Φ (cx.kin φ) (fromD (cx.kin φ).cts d) vs γ →
  Calls P f vs.toArray w fun e w' => ∃ Φ' γ' rs,e = .returned (retVal rs) ∧ OutR (fun T' ds' => InstR w' Φ' T' ds' rs γ' ∧ PostR w Φ γ (cx.kin φ) (fromD (cx.kin φ).cts d) w' Φ' γ' T' ds') (cx.kouts φ) y:=by
 intro d y h w Φ vs γ hg hi
 haveI:=GlobR.enter hok.gpm hg hi
 have hvl:=InstR_len hi
 refine (callsIn_wide (n:=0)).1 (callsIn_of_wp_marks hfn hb trivial (wpIn_wide.2 ?_) rfl)
 let a0:Act:={ tmps:=vs.toArray ++ Array.replicate (fn.ntmps - vs.toArray.size) undef,defers:=[] }
 have hsz:a0.tmps.size = fn.ntmps:=by simp [a0]; omega
 have hget:∀ t v,vs[t]? = some v → a0.tmps.getD t undef = v:=by
  intro t v ht
  have hlt:=(List.getElem?_eq_some_iff.1 ht).1
  have:a0.tmps[t]? = some v:=by
   simp only [a0]
   rw [Array.getElem?_append_left (by simpa using hlt)]
   simpa using ht
  rw [Array.getD_eq_getD_getElem?,this]; rfl
 have hslots:((List.range (cx.kin φ).slots.length).map fun t => a0.tmps.getD t undef) = vs:=by
  apply List.ext_getElem?
  intro i
  simp only [List.getElem?_map]
  by_cases hi:i < (cx.kin φ).slots.length
  · rw [List.getElem?_range hi]
    have hv:vs[i]? = some vs[i]:=List.getElem?_eq_getElem (by omega)
    rw [hv]; simp only [Option.map_some]; rw [hget i _ hv]
  · rw [List.getElem?_eq_none (by simpa using hi),List.getElem?_eq_none (by omega)]; rfl
 have hr0:=inst_base (a:=a0) (slots:=List.range (cx.kin φ).slots.length) (fix:=fun _ => none) (by rw [hslots]; exact hi) hsz (fun t v h => by cases h) (DefR.nil w.heap.size w Φ)
 unfold evFn at h
 refine ev_sound (rd:=none) (Q:=bodyPostM Fence.wide 0 P fn _) hok (N:=⟨fn.ntmps,fun _ => none,fun _ _ => False,Stays (cx.kin φ),w,γ,(cx.kin φ).heap (fromD (cx.kin φ).cts d),w.heap.size,[]⟩) (fun _ _ h => h) (Nat.le_refl _) rfl c (.inl rfl) (.inl rfl) hB (fun t v hv => by cases hv) hH hr0 (fun e s' a' w' Φ' β' hr' h' => ?_) h
 have fin:(match resultsOf cx s' fn.results.toList with
   | some vs => packOut (stayRho 0 (cx.kin φ).objs) (cx.kouts φ) vs s'
   | none => none) = some y → LeavesInM Fence.wide 0 P fn a'.tmps (fun e w' => ∃ Φ' γ' rs,e = .returned (retVal rs) ∧
   OutR (fun T' ds' => InstR w' Φ' T' ds' rs γ' ∧ PostR w Φ γ (cx.kin φ) (fromD (cx.kin φ).cts d) w' Φ' γ' T' ds') (cx.kouts φ) y) a'.defers .returning w':=by
  intro h'
  refine leaves_marks a'.defers w' hr'.defers.1.1 (fun m hm => by obtain ⟨d,h1,_,h2,_⟩:=hr'.defers.1.2 m hm; exact ⟨d,h1,h2⟩) (fun w2 hw2 => ?_)
  have hr':=hr'.shut rfl (D:=fun d => { target:=.collected d,args:=#[] } ∈ a'.defers) (fun d hd => by
   obtain ⟨d',h1,h0,h2,h3⟩:=hr'.defers.1.2 _ hd
   cases h1
   exact ⟨h0,⟨_,h2⟩,h3⟩) hw2
  split at h'
  case h_2 => cases h'
  rename_i rv hrv
  obtain ⟨us,g1,g2⟩:=results_run hok hr' _ _ hrv
  have:∀ (l:List Tm) (y:(outsT l).denote),packOut (stayRho 0 (cx.kin φ).objs) l rv s' = some y → ∃ Φ2 γ2,OutR (fun T' ds' => InstR w2 Φ2 T' ds' us γ2 ∧ PostR w Φ γ (cx.kin φ) (fromD (cx.kin φ).cts d) w2 Φ2 γ2 T' ds') l y:=by
   intro l
   induction l with
   | nil => intro y h; cases h
   | cons T' l ih =>
     intro y h
     have one:∀ d' ρ s1,packD T' (stayRho 0 (cx.kin φ).objs) rv s' = some (d',ρ,s1) → ∃ Φ2 γ2,InstR w2 Φ2 T' (fromD T'.cts d') us γ2 ∧ PostR w Φ γ (cx.kin φ) (fromD (cx.kin φ).cts d) w2 Φ2 γ2 T' (fromD T'.cts d'):=by
      intro d' ρ s1 hd
      obtain ⟨Φ2,β2,hP⟩:=packD_sound hr' g2 hd
      exact ⟨Φ2,_,hP.inst,out_post rfl rfl rfl rfl hP⟩
     cases l with
     | nil =>
       simp only [packOut] at h
       split at h
       · rename_i d' ρ s1 hd; cases h; exact one _ _ _ hd
       · cases h
     | cons T2 l =>
       simp only [packOut] at h
       split at h
       · rename_i d' ρ s1 hd; cases h; exact one _ _ _ hd
       · split at h
         · rename_i d' hd; cases h; exact ih _ hd
         · cases h
  obtain ⟨Φ2,γ2,h2⟩:=this _ _ h'
  exact ⟨_,run_results fn _ g1,Φ2,γ2,us,rfl,h2⟩
 cases e with
 | norm => exact fin h'
 | ret => exact fin h'
 | out id => cases h'
theorem PostR.trans {T T':Tm} {ds d1 ds':List Dyn} (h:PostR w Φ γ T ds w' Φ' γ' T d1) (k:PostR w' Φ' γ' T d1 w2 Φ2 γ2 T' ds'):PostR w Φ γ T ds w2 Φ2 γ2 T' ds':={
 same:=⟨k.same.os.trans h.same.os,k.same.tape.trans h.same.tape,k.same.output.trans h.same.output,Nat.le_trans h.same.size k.same.size,fun b h1 h2 => by
  rw [k.same.block b (Nat.lt_of_lt_of_le h1 h.same.size) (fun hm => by
   rcases h.mem b hm with g | g
   · exact h2 g
   · omega),h.same.block b h1 h2]⟩
 mem:=fun b hb => by
  rcases k.mem b hb with g | g
  · exact h.mem b g
  · exact .inr (Nat.le_trans h.same.size g)
 sub:=fun b hb => k.sub b (h.sub b hb)
 fro:=fun b hb => by
  rcases k.fro b hb with g | g | g
  · exact h.fro b g
  · exact .inr (h.mem b g)
  · exact .inr (.inr (Nat.le_trans h.same.size g))
 keep:=fun i hi => (h.keep i hi).trans (k.keep i hi) }
theorem rounds_mono {rd:Option Nat} {c:Code} {Q Q':Exit → Act → World → Prop} (hq:∀ e a w,Q e a w → Q' e a w):∀ (n:Nat) {a:Act} {w:World},Rounds rd P c Q n a w → Rounds rd P c Q' n a w
 | 0,_,_,h => h
 | n + 1,a,w,h => by
   refine Wr.mono h fun e a w g => ?_
   cases e with
   | normal => exact rounds_mono hq n g
   | _ => exact hq _ _ _ g
theorem packExit_sound {T:Tm} {ds:List Dyn} (hkid:N.kid = Stays T) (hkw:N.kw = w) (hkβ:N.kβ = γ) (hkh:N.kh = T.heap ds) {a:Act} (hr:Rel w Φ (OwnH w γ (T.heap ds)) N w' Φ' β s a) {e:Ex}:∀ {l:List (Ex × List Nat × Tm)} {y:(exitsT l).denote},packExit (stayRho 0 T.objs) l e s = some y →
  ∃ Φ2 γ2,DefR N.mlo w' Φ2 a.defers ∧ ExR (fun e' slots T' ds' => e.toExit = e'.toExit ∧ InstR w' Φ2 T' ds' (slotVals a slots) γ2 ∧ PostR w Φ γ T ds w' Φ2 γ2 T' ds') l y
 | [],y,h => by simp [packExit] at h
 | [(e1,slots,T')],y,h => by
   simp only [packExit] at h
   split at h
   case isFalse => cases h
   rename_i he
   split at h
   case h_2 => cases h
   rename_i vs hvs
   split at h
   case h_2 => cases h
   rename_i d ρ s1 hpk
   cases h
   obtain ⟨Φ2,β2,hP⟩:=packD_sound hr (lookAll_sound hr hvs) hpk
   exact ⟨Φ2,_,hP.rel.defers.1,by rw [he],hP.inst,out_post hkid hkw hkβ hkh hP⟩
 | (e1,slots,T') :: b :: r,y,h => by
   simp only [packExit] at h
   split at h
   · rename_i d ρ s1 hd
     split at hd
     case isFalse => cases hd
     rename_i he
     split at hd
     case h_2 => cases hd
     rename_i vs hvs
     cases h
     obtain ⟨Φ2,β2,hP⟩:=packD_sound hr (lookAll_sound hr hvs) hd
     exact ⟨Φ2,_,hP.rel.defers.1,by rw [he],hP.inst,out_post hkid hkw hkβ hkh hP⟩
   · split at h
     case h_2 => cases h
     rename_i d hd
     cases h
     obtain ⟨Φ2,γ2,g⟩:=packExit_sound hkid hkw hkβ hkh hr (l:=b :: r) hd
     exact ⟨Φ2,γ2,g⟩
theorem bend_of {κ n B:Nat} {fix:Nat → Option Value} {ds:List Dyn} {y:(exitsT (cx.bk κ).exits).denote} {e:Ex} {a:Act} (hr:Rel w Φ (OwnH w γ ((cx.bk κ).ins.heap ds)) ⟨n,fix,fun _ _ => False,Stays (cx.bk κ).ins,w,γ,(cx.bk κ).ins.heap ds,B,[]⟩ w' Φ' β s a)
  (h:packExit (stayRho 0 (cx.bk κ).ins.objs) (cx.bk κ).exits e s = some y):BEnd cx κ n fix B w Φ γ ds y e.toExit a w':=by
 obtain ⟨Φ2,γ2,g⟩:=packExit_sound (N:=⟨n,fix,fun _ _ => False,Stays (cx.bk κ).ins,w,γ,(cx.bk κ).ins.heap ds,B,[]⟩) (w:=w) (γ:=γ) (ds:=ds) rfl rfl rfl rfl hr h
 exact ⟨hr.size,hr.fix,Φ2,γ2,g⟩
theorem tail_sound {rd:Option Nat} (hok:AllOk P cx) {n κ B:Nat} {c:Code} (hc:RdC rd c) {fix:Nat → Option Value} (hb:Bound [] n c = true) (hh:Hints P cx n H c) {d:(cx.bk κ).ins.ct.denote}
  {y:(exitsT (cx.bk κ).exits).denote} (h:evBlk cx H κ (.tail c) d = some y) (hf:∀ t v,fix t = some v → Bound [t] n c = true) (h1:∀ t v,fix t = some v → a.tmps.getD t undef = v) (h2:a.tmps.size = n) (hB:B ≤ w.heap.size) (h3:DefR B w Φ a.defers) (hg:cx.gp w Φ)
  (hi:InstR w Φ (cx.bk κ).ins (fromD (cx.bk κ).ins.cts d) (slotVals a (cx.bk κ).slots) γ):Wr rd P c (BEnd cx κ n fix B w Φ γ (fromD (cx.bk κ).ins.cts d) y) a w:=by
 haveI:=GlobR.enter hok.gpm hg hi
 have hr0:=inst_base (a:=a) (slots:=(cx.bk κ).slots) (fix:=fix) hi h2 h1 h3
 refine ev_sound (N:=⟨n,fix,fun _ _ => False,Stays (cx.bk κ).ins,w,γ,(cx.bk κ).ins.heap (fromD (cx.bk κ).ins.cts d),B,[]⟩) hok (fun _ _ h => h) hB rfl c hc (.inr BEnd.notOut) hb hf hh hr0 (fun e s' a' w' Φ' β' hr' h' => bend_of hr' h') h
theorem loop_sound {rd:Option Nat} (hok:AllOk P cx) {n κ m id B:Nat} {c:Code} (hc:RdC rd c) {fix:Nat → Option Value} (hb:Bound [] n c = true) (hh:Hints P cx n H c)
  (ih:RunOk cx n κ c (fun Q a w => Rounds rd P c (Exit.inBlock id Q) m a w))
  (halt:∀ κ2,H.al κ = some κ2 → RunOk cx n κ2 c (fun Q a w => Rounds rd P c (Exit.inBlock id Q) m a w) ∧ ∀ t ∈ (cx.bk κ2).keep,Bound [t] n c = true) {d:(cx.bk κ).ins.ct.denote}
  {y:(exitsT (cx.bk κ).exits).denote} (h:evBlk cx H κ (.loop id c) d = some y) (hf:∀ t v,fix t = some v → Bound [t] n c = true) (h1:∀ t v,fix t = some v → a.tmps.getD t undef = v) (h2:a.tmps.size = n) (hB:B ≤ w.heap.size) (h3:DefR B w Φ a.defers) (hg:cx.gp w Φ)
  (hi:InstR w Φ (cx.bk κ).ins (fromD (cx.bk κ).ins.cts d) (slotVals a (cx.bk κ).slots) γ):Rounds rd P c (Exit.inBlock id (BEnd cx κ n fix B w Φ γ (fromD (cx.bk κ).ins.cts d) y)) (m + 1) a w:=by
 haveI:=GlobR.enter hok.gpm hg hi
 have hr0:=inst_base (a:=a) (slots:=(cx.bk κ).slots) (fix:=fix) hi h2 h1 h3
 show Wr rd P c (Exit.then (Rounds rd P c (Exit.inBlock id (BEnd cx κ n fix B w Φ γ (fromD (cx.bk κ).ins.cts d) y)) m) (Exit.inBlock id (BEnd cx κ n fix B w Φ γ (fromD (cx.bk κ).ins.cts d) y))) a w
 refine ev_sound (N:=⟨n,fix,fun _ _ => False,Stays (cx.bk κ).ins,w,γ,(cx.bk κ).ins.heap (fromD (cx.bk κ).ins.cts d),B,[]⟩) hok (fun _ _ h => h) hB rfl c hc (.inr BEnd.notOut) hb hf hh hr0 (fun e s' a' w' Φ' β' hr' h' => ?_) h
 cases e with
 | ret => exact bend_of (e:=.ret) hr' h'
 | out id' =>
   show (if id' = id then BEnd cx κ n fix B w Φ γ _ y .normal a' w' else BEnd cx κ n fix B w Φ γ _ y (.exit id') a' w')
   simp only at h'
   cases hbq:Nat.beq id' id with
   | true => rw [hbq] at h'; rw [if_pos (Nat.eq_of_beq_eq_true hbq)]; exact bend_of (e:=.norm) hr' h'
   | false => rw [hbq] at h'; rw [if_neg (fun e => by rw [e,Nat.beq_refl] at hbq; cases hbq)]; exact bend_of (e:=.out id') hr' h'
 | norm =>
   simp only at h'
   split at h'
   case h_2 => cases h'
   rename_i vs hvs
   split at h'
   case h_2 =>
    split at h'
    case h_2 => cases h'
    rename_i κ2 hκ2
    obtain ⟨hrun,hkeep⟩:=halt κ2 hκ2
    show Rounds rd P c (Exit.inBlock id (BEnd cx κ n fix B w Φ γ _ y)) m a' w'
    refine enterBlk_run (N:=⟨n,fix,fun _ _ => False,Stays (cx.bk κ).ins,w,γ,(cx.bk κ).ins.heap (fromD (cx.bk κ).ins.cts d),B,[]⟩) (run:=fun Q a w => Rounds rd P c (Exit.inBlock id Q) m a w) (fun {Q Q'} hq a w g => rounds_mono (fun e a w g => ?_) m g) hrun hkeep hf hB hr' (fun e s2 a2 w2 Φ2 β2 hr2 hk2 => bend_of hr2 hk2) h'
    cases e with
    | exit id' =>
      simp only [Exit.inBlock] at g ⊢
      split at g
      · rename_i he; rw [if_pos he]; exact hq _ _ _ g
      · rename_i he; rw [if_neg he]; exact hq _ _ _ g
    | _ => exact hq _ _ _ g
   rename_i d' ρ s1 hpk
   obtain ⟨Φ2,β2,hP⟩:=packD_sound hr' (lookAll_sound hr' hvs) hpk
   have hpost:=out_post (N:=⟨n,fix,fun _ _ => False,Stays (cx.bk κ).ins,w,γ,(cx.bk κ).ins.heap (fromD (cx.bk κ).ins.cts d),B,[]⟩) (w:=w) (γ:=γ) (T:=(cx.bk κ).ins) (ds:=fromD (cx.bk κ).ins.cts d) rfl rfl rfl rfl hP
   show Rounds rd P c (Exit.inBlock id (BEnd cx κ n fix B w Φ γ _ y)) m a' w'
   have:=ih d' y h' w' Φ2 a' _ fix B hf hr'.fix hr'.size (Nat.le_trans hB hr'.same.size) hP.rel.defers.1 (GlobR.get this hP.rel) hP.inst
   refine rounds_mono (fun e a w2 g => ?_) m this
   have tr:∀ {ex a w2},BEnd cx κ n fix B w' Φ2 (fun k => (ρ.at k).bind β2) (fromD (cx.bk κ).ins.cts d') y ex a w2 → BEnd cx κ n fix B w Φ γ (fromD (cx.bk κ).ins.cts d) y ex a w2 :=
    fun ⟨k1,k2,Φ3,γ3,k3,k4⟩ => ⟨k1,k2,Φ3,γ3,k3,ExR.mono (fun e l T ds ⟨m1,m2,m3⟩ => ⟨m1,m2,hpost.trans m3⟩) k4⟩
   cases e with
   | exit id' =>
     simp only [Exit.inBlock] at g ⊢
     split at g
     · rename_i he; rw [if_pos he]; exact tr g
     · rename_i he; rw [if_neg he]; exact tr g
   | _ => exact tr g
end
end Go.Bm
end
