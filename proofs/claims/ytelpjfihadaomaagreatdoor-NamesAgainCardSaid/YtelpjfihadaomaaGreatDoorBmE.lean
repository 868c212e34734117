import Derived.Test.YtelpjfihadaomaaGreatDoorBmD
import Derived.LoopN
import Derived.OrdersHeld
import Derived.Recover
import Derived.Test.YtelpjfihadaomaaGreatDoorBmA
import Derived.Test.YtelpjfihadaomaaGreatDoorBmB
section
open Option (bind_some)
open Bool (and_eq_true)
namespace Go.Bm
set_option linter.unusedVariables false
set_option linter.unusedSimpArgs false
def Ex.Z4:Ex → Exit
 | .norm => .normal
 | .out id => .exit id
 | .ret => .ret
 | .pan t j n => a3w t j n
def a0Q (a:Act) (slots:List Nat):List Value:=slots.map fun t => a.tmps.getD t undef
def ExR (K:Ex → List Nat → Tm → List Dyn → Prop):(l:List (Ex × List Nat × Tm)) → (H0 l).denote → Prop
 | [],_ => False
 | [(e,slots,T')],y => K e slots T' (l8 T'.cts y)
 | (e,slots,T') :: b :: r,y => match y with
   | .inl a => K e slots T' (l8 T'.cts a)
   | .inr c => ExR K (b :: r) c
theorem ExR.mono {K K':Ex → List Nat → Tm → List Dyn → Prop} (h:∀ e l T ds,K e l T ds → K' e l T ds):∀ {l:List (Ex × List Nat × Tm)} {y:(H0 l).denote},ExR K l y → ExR K' l y
 | [],_,g => g
 | [(e,slots,T')],y,g => h _ _ _ _ g
 | (e,slots,T') :: b :: r,.inl a,g => h _ _ _ _ g
 | (e,slots,T') :: b :: r,.inr c,g => ExR.mono h (l:=b :: r) g
def b8J (ex:Exit) (a:Act) (slots:List Nat):Ex → List Value → Prop
 | .pan _ _ _,vs => ∃ v,vs = [v] ∧ ex = .panic [{ v:=v,recovered:=false }]
 | e,vs => ex = e.Z4 ∧ vs = a0Q a slots
def a7s (cx:Cx) (κ n:Nat) (fix:Nat → Option Value) (D:List Deferred) (w:World) (Φ:Nat → Prop) (γ:Loc) (ds:List Dyn) (y:(H0 (cx.bk κ).exits).denote) (ex:Exit) (a':Act) (w':World):Prop :=
 a'.tmps.size = n ∧ (∀ t v,fix t = some v → a'.tmps.getD t undef = v) ∧ a'.defers = D ∧
  ∃ Φ' γ',ExR (fun e slots T' ds' => ∃ vs,b8J ex a' slots e vs ∧ InstR w' Φ' T' ds' vs γ' ∧ PostR w Φ γ (cx.bk κ).ins ds w' Φ' γ' T' ds') (cx.bk κ).exits y
def b2C (cx:Cx) (n κ:Nat) (c:Code) (run:(Exit → Act → World → Prop) → Act → World → Prop):Prop:=∀ d y,cx.rb κ d = some y → ∀ (w:World) (Φ:Nat → Prop) (a:Act) (γ:Loc) (fix:Nat → Option Value) (D:List Deferred),
 (∀ t v,fix t = some v → o5 [t] n c = true) → (∀ t v,fix t = some v → a.tmps.getD t undef = v) → a.tmps.size = n → a.defers = D →
 cx.gp w Φ → InstR w Φ (cx.bk κ).ins (l8 (cx.bk κ).ins.cts d) (a0Q a (cx.bk κ).slots) γ → run (a7s cx κ n fix D w Φ γ (l8 (cx.bk κ).ins.cts d) y) a w
def a7t (P:Program) (cx:Cx) (n κ:Nat) (c:Code):Prop:=b2C cx n κ c (fun Q a w => c.wp P Q a w)
def a8f:OrdT → List Nat
 | .only i _ => [i]
 | .alt i _ r => i :: a8f r
 | _ => []
def Q5 (ops:Array Oper):Bool → Nat → Array Bool → OrdT → Bool
 | m,_,listed,.done => m && (Region.ready .any ops listed).isEmpty
 | m,n + 1,listed,.take i t => m && (Region.free .any ops listed i && ((Region.ready .any ops listed).contains i && Q5 ops true n (listed.setIfInBounds i true) t))
 | m,n + 1,listed,.only i t => (!m || ((Region.ready .any ops listed).contains i && (Region.ready .any ops listed).all fun j => Nat.beq j i)) && Q5 ops true n (listed.setIfInBounds i true) t
 | m,n + 1,listed,.alt i t r => (!m || ((Region.ready .any ops listed).contains i && (Region.ready .any ops listed).all fun j => has (a8f (.alt i t r)) j)) &&
    (Q5 ops true n (listed.setIfInBounds i true) t && Q5 ops false (n + 1) listed r)
 | _,0,_,_ => false
def Hints (P:Program) (cx:Cx) (n:Nat) (H:Hn):Code → Prop
 | .seq a b => Hints P cx n H a ∧ (match (n7 b).bind H.tk with
   | some κ => a7t P cx n κ b ∧ ∀ t ∈ (cx.bk κ).keep,o5 [t] n b = true
   | none => Hints P cx n H b)
 | .block id c => match H.lk id with
   | some κ => a7t P cx n κ (.block id c) ∧ ∀ t ∈ (cx.bk κ).keep,o5 [t] n c = true
   | none => Hints P cx n H c
 | .cond _ a b => Hints P cx n H a ∧ Hints P cx n H b
 | .loop c => Hints P cx n H c
 | .region id ops true => ∀ slots t,H.dk id = some (slots,t) → Region.noSelect ops = true ∧ Q5 ops true ops.size (Array.replicate ops.size false) t = true
 | _ => True
theorem b7G {fx:List Nat} {d t:Nat} (h:fresh fx d = true) (ht:t ∈ fx):fresh [t] d = true:=by
 have:=List.all_eq_true.1 h t ht
 simpa [fresh] using this
theorem O8 {fx:List Nat} {n t:Nat} (ht:t ∈ fx):∀ (c:Code),o5 fx n c = true → o5 [t] n c = true
 | .region _ ops _,h => by
   simp only [o5,List.all_eq_true] at *
   intro o ho
   have:=h o ho
   cases hd:o.dst with
   | none => rfl
   | some d =>
     rw [hd] at this
     simp only [and_eq_true] at *
     exact ⟨this.1,b7G this.2 ht⟩
 | .seq a b,h => by simp only [o5,and_eq_true] at *; exact ⟨O8 ht a h.1,O8 ht b h.2⟩
 | .cond _ a b,h => by simp only [o5,and_eq_true] at *; exact ⟨O8 ht a h.1,O8 ht b h.2⟩
 | .block _ c,h => O8 ht c h
 | .loop c,h => O8 ht c h
 | .skip,_ => rfl
 | .exit _,_ => rfl
 | .ret,_ => rfl
 | .rangeFunc _ _ _ _,_ => rfl
 | .scope _,_ => rfl
 | .label _,_ => rfl
 | .goto _,_ => rfl
 | .refuse _,_ => rfl
structure AllOk (P:Program) (cx:Cx):Prop where
 ok:CxOk P cx
 fn:∀ f,∀ φ ∈ cx.keys f,b8L P cx f φ
 mixed:P.follows .mixedOrders = true
 gpm:a5f cx.gp
 gvo:∀ w Φ,cx.gp w Φ → GvR cx.gv w Φ
section
variable {P:Program} {R:Type} {w0:World} {Φ0 own0:Nat → Prop} {N:Frm} {w w':World} {Φ Φ':Nat → Prop} {β β':Loc} {s s':St} {a a':Act} {hp:List (Nat × SObj)}
variable {cx:Cx} {H:Hn}
theorem a6S [hG:GlobR cx.gp w0 Φ0 own0] (hok:AllOk P cx) {o:Oper} {next:Act → World → Prop} {Q:Exit → Act → World → Prop} {k:St → Option R} {r:R} (hr:Rel w0 Φ0 own0 N w Φ β s a) (hN:∀ d,o.dst = some d → N.ok d)
  (hk:∀ s' a' w' Φ' β',Rel w0 Φ0 own0 N w' Φ' β' s' a' → k s' = some r → next a' w') (h:j6 cx o s k = some r):o.wp P a w next Q:=by
 cases ho:o.op with
 | move x => exact b1k hr hN hk (.inl ho) h
 | assign x => exact b1k hr hN hk (.inr ho) h
 | pick c x y => exact b8B hr hN hk ho h
 | alloc t => exact b5z hok.ok hr hN hk ho h
 | box t x => exact c2D hok.ok hr hN hk ho h
 | build t ps => exact b5A hok.ok hr hN hk ho h
 | buildSlice t n ps => exact a7g hok.ok hr hN hk ho h
 | load t x => exact b8A hok.ok hr hN hk ho (hok.gvo _ _ (hG.get hr)) h
 | store t x y => exact b5F hok.ok hr hN hk ho h
 | nilCheck x => exact b0e hr hN hk ho h
 | binOp op t x y t' => exact c2C hok.ok hr hN hk ho h
 | unOp op t x => exact c5Q hr hN hk ho h
 | convert t d x => exact b2r hok.ok hr hN hk ho h
 | makeSlice t l c => exact a9w hok.ok hr hN hk ho h
 | slice t x lo hi mx =>
   cases mx with
   | none => exact b5E hok.ok hr hN hk ho h
   | some m =>
     cases lo with
     | some _ => simp [j6,ho] at h
     | none =>
       cases hi with
       | none => simp [j6,ho] at h
       | some y => exact (b2f hok.ok hr ho h).wp hr trivial hN hk
 | fieldAddr t x f => exact a9t hok.ok hr hN hk ho h
 | field t x f => exact b5C hok.ok hr hN hk ho h
 | indexAddr t x i => exact a9u hok.ok hr hN hk ho h
 | index t x i => exact b5D hok.ok hr hN hk ho h
 | extract x i => exact b2s hr hN hk ho h
 | makeMap t m =>
   cases m with
   | none => exact b2u hok.ok hr hN hk ho h
   | some m => simp [j6,ho] at h
 | lookup t x i b => exact b4h hok.ok hr hN hk ho h
 | mapUpdate t x i y => exact a2I hok.ok hr hN hk (.inl ho) h
 | insert t x i y => exact a2I hok.ok hr hN hk (.inr ho) h
 | makeFunc fn x y =>
   cases fn with
   | func f => exact b0d hr hN hk ho h
   | _ => simp [j6,ho] at h
 | makeInterface t x => exact (a7d hok.ok hr ho h).wp hr trivial hN hk
 | typeAssert x t2 t b =>
   cases b with
   | false => exact (b2d hok.ok hr ho h).wp hr trivial hN hk
   | true => exact (a8T hok.ok hr ho h).wp hr trivial hN hk
 | call c =>
   cases hc:c.callee with
   | value x => exact b8y hok.fn hr hN hk ho hc h
   | invoke r m => exact b4g hok.ok hok.fn hr hN hk ho hc h
   | builtin b =>
     cases b with
     | len => exact c2E hok.ok hr hN hk ho hc h
     | append => exact step_append hok.ok hr hN hk ho hc h
     | clear => exact b5B hok.ok hr hN hk ho hc h
     | delete => exact b4f hok.ok hr hN hk ho hc h
     | copy => exact b8z hok.ok hr hN hk ho hc h
     | max => exact b4i hr hN hk ho (.inl hc) h
     | min => exact b4i hr hN hk ho (.inr hc) h
     | _ => simp [j6,ho,hc] at h
 | _ => simp [j6,ho] at h
theorem a6T [hG:GlobR cx.gp w0 Φ0 own0] (hok:AllOk P cx) {o:Oper} {next:Act → World → Prop} {Q:Exit → Act → World → Prop} {k:St → Option R} {kp:F6 R} {r:R} (hr:Rel w0 Φ0 own0 N w Φ β s a) (hN:∀ d,o.dst = some d → N.ok d)
  (hk:∀ s' a' w' Φ' β',Rel w0 Φ0 own0 N w' Φ' β' s' a' → k s' = some r → next a' w') (hkp:∀ t j n s' w' Φ' β',Rel w0 Φ0 own0 N w' Φ' β' s' a → kp t j n s' = some r → Q (a3w t j n) a w') (h:O1 cx o s k kp = some r):o.wp P a w next Q:=by
 unfold O1 at h
 split at h
 · rename_i x ho
   split at h
   case h_2 => cases h
   rename_i t j n hx
   have hv:a.eval x = .iface t (.int j n):=hr.eval hx
   unfold Oper.wp
   simp only [execOp,ho,hv]
   exact hkp _ _ _ _ _ _ _ hr h
 · rename_i c ho
   split at h
   · rename_i f hc
     split at h
     case h_2 => cases h
     rename_i v vs hv hvs
     exact a7O hok.fn hr hN hk hkp ho hc hv hvs h
   · exact a6S hok hr hN hk h
 · exact a6S hok hr hN hk h
theorem getD_some {a:Act} {d:Nat} {v:Value} (h:a.tmps.getD d undef = v) (hd:d < a.tmps.size):a.tmps[d]? = some v:=by
 simp [Array.getD,hd] at h
 simp [hd,h]
theorem a9n (hr:Rel w0 Φ0 own0 N w Φ β s a) {d:Nat} {v:SVal} (hv:SVR w Φ β s.heap v (a.tmps.getD d undef)):Rel w0 Φ0 own0 N w Φ β (s.set (some d) v) a:=by
 refine ⟨fun t u hu => ?_,⟨hr.hp.ob,hr.hp.lt,hr.hp.hlt,hr.hp.inj,hr.hp.blt,hr.hp.flt,hr.hp.rin,hr.hp.rinj⟩,hr.own,hr.same,hr.fri,hr.fro,hr.size,hr.fix,hr.defers,hr.hold,hr.keep,hr.rown⟩
 simp only [St.set,g9] at hu
 split at hu
 · rename_i e; subst e; cases hu; exact hv
 · exact hr.env t u hu
theorem N4 [hG:GlobR cx.gp w0 Φ0 own0] (hok:AllOk P cx) {ops:Array Oper} (tl:List Nat) {Q:Exit → Act → World → Prop} {k:St → Option R} {kp:F6 R} {r:R} (hN:∀ o ∈ ops.toList,∀ d,o.dst = some d → N.ok d)
  (hk:∀ s' a' w' Φ' β',Rel w0 Φ0 own0 N w' Φ' β' s' a' → k s' = some r → wpOps P ops Q tl a' w') (hkp:∀ t j n s' a' w' Φ' β',Rel w0 Φ0 own0 N w' Φ' β' s' a' → kp t j n s' = some r → Q (a3w t j n) a' w'):∀ (l:List Oper) (i:Nat) {w:World} {Φ:Nat → Prop} {β:Loc} {s:St} {a:Act},(∀ j x,l[j]? = some x → ops[i + j]? = some x) →
  Rel w0 Φ0 own0 N w Φ β s a → G4 cx ops.toList kp l s k = some r → wpOps P ops Q (List.range' i l.length ++ tl) a w
 | [],i,w,Φ,β,s,a,_,hr,h => by simp only [G4] at h; simpa using hk _ _ _ _ _ hr h
 | o :: l,i,w,Φ,β,s,a,hl,hr,h => by
   have hoi:ops[i]? = some o:=hl 0 o rfl
   have hl':∀ j x,l[j]? = some x → ops[i + 1 + j]? = some x:=fun j x hx => by rw [show i + 1 + j = i + (j + 1) by omega]; exact hl (j + 1) x (by simpa using hx)
   have hmem:o ∈ ops.toList:=by rw [← Array.getElem?_toList] at hoi; exact List.mem_of_getElem? hoi
   have hoN:=hN o hmem
   have yes:∀ {s1:St},Rel w0 Φ0 own0 N w Φ β s1 a → O1 cx o s1 (fun s' => G4 cx ops.toList kp l s' k) kp = some r → o.wp P a w (wpOps P ops Q (List.range' (i + 1) l.length ++ tl)) Q:=fun hr1 h1 =>
    a6T hok hr1 hoN (fun s' a' w' Φ' β' hr' h' => N4 hok tl hN hk hkp l (i + 1) hl' hr' h') (fun t j n s' w' Φ' β' hr' h' => hkp t j n s' a w' Φ' β' hr' h') h1
   have no:∀ {s1:St},Rel w0 Φ0 own0 N w Φ β s1 a → G4 cx ops.toList kp l (s1.set o.dst .skip) k = some r → wpOps P ops Q (List.range' (i + 1) l.length ++ tl) (a.put o.dst undef) w:=fun hr1 h1 =>
    N4 hok tl hN hk hkp l (i + 1) hl' (hr1.set (sv:=.skip) (v:=undef) rfl hoN) h1
   simp only [List.length_cons,List.range'_succ,List.cons_append,wpOps,hoi]
   simp only [G4] at h
   split at h
   · rename_i hg
     have hw:Region.wanted o (yielded ops a.tmps) = true:=by simp [Region.wanted,hg]
     rw [if_pos hw]
     exact .inl (yes hr h)
   · rename_i j want hg
     split at h
     case h_2 => cases h
     rename_i d hd
     rw [nth_getElem?,Array.getElem?_toList] at hd
     split at h
     · rename_i b hb
       have hv:a.tmps.getD d undef = .bool b:=hr.env d _ hb
       have hdl:d < a.tmps.size:=by
        rcases Nat.lt_or_ge d a.tmps.size with g | g
        · exact g
        · have:a.tmps.getD d undef = undef:=by simp [Array.getD,Nat.not_lt.2 g]
          rw [this] at hv; cases hv
       have hy:yielded ops a.tmps j = some b:=by
        simp only [yielded,hd,bind_some,getD_some hv hdl]
       have hw:Region.wanted o (yielded ops a.tmps) = (some b == some want):=by simp only [Region.wanted,hg,hy]
       have hs1:Rel w0 Φ0 own0 N w Φ β (s.set (some d) (.one (.bool b))) a:=a9n hr (by rw [hv]; rfl)
       cases b <;> cases want <;> simp only [Y0,cond_true,cond_false] at h <;> rw [hw]
       · rw [if_pos (by rfl)]; exact .inl (yes hs1 h)
       · rw [if_neg (by decide)]; exact no hs1 h
       · rw [if_neg (by decide)]; exact no hs1 h
       · rw [if_pos (by rfl)]; exact .inl (yes hs1 h)
     · rename_i hb
       have hv:a.tmps.getD d undef = undef:=hr.env d _ hb
       have hy:yielded ops a.tmps j = none:=by
        simp only [yielded,hd,bind_some]
        rcases Nat.lt_or_ge d a.tmps.size with g | g
        · rw [getD_some hv g]; rfl
        · rw [Array.getElem?_eq_none g]
       have hw:Region.wanted o (yielded ops a.tmps) = false:=by simp only [Region.wanted,hg,hy]; rfl
       rw [hw]
       exact no hr h
     · cases h
theorem a6m [hG:GlobR cx.gp w0 Φ0 own0] (hok:AllOk P cx) {ops:Array Oper} {Q:Exit → Act → World → Prop} {k:St → Option R} {kp:F6 R} {r:R} (hN:∀ o ∈ ops.toList,∀ d,o.dst = some d → N.ok d)
  (hk:∀ s' a' w' Φ' β',Rel w0 Φ0 own0 N w' Φ' β' s' a' → k s' = some r → Q .normal a' w') (hkp:∀ t j n s' a' w' Φ' β',Rel w0 Φ0 own0 N w' Φ' β' s' a' → kp t j n s' = some r → Q (a3w t j n) a' w') (l:List Oper) (i:Nat) {w:World} {Φ:Nat → Prop} {β:Loc} {s:St} {a:Act} (hl:∀ j,l[j]? = ops[i + j]?)
  (hr:Rel w0 Φ0 own0 N w Φ β s a) (h:G4 cx ops.toList kp l s k = some r):wpOps P ops Q (List.range' i l.length) a w:=by
 have:=N4 hok [] hN hk hkp l i (fun j x hx => (hl j).symm.trans hx) hr h
 rwa [List.append_nil] at this
theorem R1 (hr:Rel w0 Φ0 own0 N w Φ β s a):∀ {slots:List Nat} {vs:List SVal},T9 s.env slots = some vs → E9 w Φ β s.heap vs (a0Q a slots)
 | [],vs,h => by simp [T9] at h; subst h; rfl
 | n :: r,vs,h => by
   simp only [T9] at h
   split at h
   · rename_i x y h1 h2; cases h; exact ⟨_,_,rfl,hr.env n x h1,R1 hr h2⟩
   · cases h
theorem a2f {T:Tm} {ρ:Rho} {keep:List Nat} {K:Ex → List Nat → Tm → List Dyn → Prop} {k:Ex → St → Option R} {r:R}:∀ {l:List (Ex × List Nat × Tm)} {y:(H0 l).denote},ExR K l y → a0D T ρ keep s l y k = some r →
  ∃ e slots T' ds',K e slots T' ds' ∧ a3M T ρ keep s e slots T' ds' k = some r
 | [],_,g,_ => g.elim
 | [(e,slots,T')],y,g,h => ⟨_,_,_,_,g,h⟩
 | (e,slots,T') :: b :: r',.inl x,g,h => ⟨_,_,_,_,g,h⟩
 | (e,slots,T') :: b :: r',.inr x,g,h => a2f (l:=b :: r') g (by simpa only [a0D] using h)
theorem a1d {env:List (Nat × SVal)}:∀ {l:List Nat} {t:Nat} {v:SVal},look (a4v env l) t = some v → t ∈ l ∧ look env t = some v
 | [],t,v,h => by cases h
 | x :: r,t,v,h => by
   simp only [a4v] at h
   split at h
   · rename_i u hu
     rw [g9] at h
     split at h
     · rename_i e; subst e; cases h; exact ⟨by simp,hu⟩
     · obtain ⟨h1,h2⟩:=a1d h; exact ⟨List.mem_cons_of_mem _ h1,h2⟩
   · obtain ⟨h1,h2⟩:=a1d h; exact ⟨List.mem_cons_of_mem _ h1,h2⟩
theorem a4m [hG:GlobR cx.gp w0 Φ0 own0] {κ:Nat} {c:Code} {run:(Exit → Act → World → Prop) → Act → World → Prop} (hmono:∀ {Q Q':Exit → Act → World → Prop},(∀ e a w,Q e a w → Q' e a w) → ∀ a w,run Q a w → run Q' a w) (hb:b2C cx N.n κ c run) (hkeep:∀ t ∈ (cx.bk κ).keep,o5 [t] N.n c = true) (hfx:∀ t v,N.fix t = some v → o5 [t] N.n c = true) {k:Ex → St → Option R} {r:R} {Q:Exit → Act → World → Prop} (hr:Rel w0 Φ0 own0 N w Φ β s a)
  (hk:∀ e s' a' w' Φ' β',Rel w0 Φ0 own0 N w' Φ' β' s' a' → k e s' = some r → Q e.Z4 a' w') (h:G3 cx κ s k = some r):run Q a w:=by
 unfold G3 at h
 split at h
 case h_2 => cases h
 rename_i vs hvs
 split at h
 case h_2 => cases h
 rename_i d ρ s1 hpk
 obtain ⟨y,hy,h⟩:=Option.bind_eq_some_iff.1 h
 unfold a3S at hpk
 obtain ⟨hng,hpk⟩:=e8 hpk
 obtain ⟨Φ1,β1,hP⟩:=I5 hr (R1 hr hvs) hpk
 let fix:Nat → Option Value:=fun t => if t ∈ (cx.bk κ).keep then some (a.tmps.getD t undef) else N.fix t
 have hfix:∀ t v,fix t = some v → o5 [t] N.n c = true:=by
  intro t v hv
  simp only [fix] at hv
  split at hv
  · rename_i hm; exact hkeep t hm
  · exact hfx t v hv
 have hfix2:∀ t v,fix t = some v → a.tmps.getD t undef = v:=by
  intro t v hv
  simp only [fix] at hv
  split at hv
  · cases hv; rfl
  · exact hr.fix t v hv
 refine hmono (fun ex a' w' ⟨h1,hf1,h2,Φ',γ',h3⟩ => ?_) _ _ (hb d y hy w Φ1 a _ fix N.dfs hfix hfix2 hr.size hr.defers (hG.get hP.rel) hP.inst)
 obtain ⟨e,slots,T',ds',⟨vs',he,hi,hpost⟩,hkk⟩:=a2f h3 h
 obtain ⟨β',k1,k2,k3⟩:=Rel.back hP hng hi hpost
 have ha:∀ t,t ∈ (cx.bk κ).keep → a'.tmps.getD t undef = a.tmps.getD t undef:=fun t ht => hf1 t _ (by simp only [fix]; rw [if_pos ht])
 have hfin:∀ t v,N.fix t = some v → a'.tmps.getD t undef = v:=by
  intro t v hv
  by_cases ht:t ∈ (cx.bk κ).keep
  · rw [ha t ht]; exact hr.fix t v hv
  · exact hf1 t v (by simp only [fix]; rw [if_neg ht]; exact hv)
 have mk:∀ sl,(∀ vs2,vs2 = X0 (cx.bk κ).ins ρ T' ds' s1 → sl = [] ∨ E9 w' Φ' β' (a0g (cx.bk κ).ins ρ T' ds' s1).heap vs2 (a0Q a' sl)) → Rel w0 Φ0 own0 N w' Φ' β' (a7k (cx.bk κ).ins ρ (cx.bk κ).keep sl T' ds' s1) a':=by
  intro sl hsl
  refine ⟨?_,⟨k1.hp.ob,k1.hp.lt,k1.hp.hlt,k1.hp.inj,k1.hp.blt,k1.hp.flt,k1.hp.rin,k1.hp.rinj⟩,k1.own,k1.same,k1.fri,k1.fro,h1,hfin,h2,k1.hold,k1.keep,k1.rown⟩
  intro t v hv
  simp only [a7k,Y5] at hv
  split at hv
  · rename_i x hx
    cases hv
    rcases hsl _ rfl with e0 | k3'
    · subst e0; simp [look] at hx
    · exact a4A (vs:=[]) k3' t _ hx
  · obtain ⟨g1,g2⟩:=a1d hv
    rw [ha t g1]
    exact k1.env t v g2
 cases e with
 | pan t0 j0 n0 =>
   obtain ⟨v,e1,e2⟩:=he
   simp only [a3M] at hkk
   split at hkk
   case h_2 => cases hkk
   rename_i t j n hbv
   rw [hbv] at k3
   obtain ⟨v',us',g1,g2,g3⟩:=k3
   cases g3
   rw [e1] at g1
   cases g1
   have hv:v = .iface t (.int j n):=g2
   rw [e2,hv]
   exact hk (.pan t j n) _ a' w' Φ' β' (mk [] (fun _ _ => .inl rfl)) hkk
 | norm => rw [he.1]; exact hk .norm _ a' w' Φ' β' (mk slots (fun vs2 e2 => .inr (by rw [e2,← he.2]; exact k3))) hkk
 | ret => rw [he.1]; exact hk .ret _ a' w' Φ' β' (mk slots (fun vs2 e2 => .inr (by rw [e2,← he.2]; exact k3))) hkk
 | out id => rw [he.1]; exact hk (.out id) _ a' w' Φ' β' (mk slots (fun vs2 e2 => .inr (by rw [e2,← he.2]; exact k3))) hkk
def b6P (N:Frm) (Q:Exit → Act → World → Prop):Prop:=∀ c a d v w,(∀ d',d = some d' → N.ok d') → Q (.panic c) (a.put d v) w → Q (.panic c) a w
theorem a6v {c:Code} {k:Ex → St → Option R} {r:R} {Q:Exit → Act → World → Prop}
  (hQ:b6P N Q) (hbody:∀ (k:Ex → St → Option R) (Q:Exit → Act → World → Prop),b6P N Q → ∀ {w:World} {Φ:Nat → Prop} {β:Loc} {s:St} {a:Act},Rel w0 Φ0 own0 N w Φ β s a →
    (∀ e s' a' w' Φ' β',Rel w0 Φ0 own0 N w' Φ' β' s' a' → k e s' = some r → Q e.Z4 a' w') → ev cx H c s k = some r → c.wp P Q a w)
  (hk:∀ e s' a' w' Φ' β',Rel w0 Φ0 own0 N w' Φ' β' s' a' → k e s' = some r → Q e.Z4 a' w'):∀ (n:Nat) {w:World} {Φ:Nat → Prop} {β:Loc} {s:St} {a:Act},Rel w0 Φ0 own0 N w Φ β s a →
  a4B (ev cx H c) n s k = some r → Code.rounds P c Q n a w
 | 0,w,Φ,β,s,a,hr,h => by simp [a4B] at h
 | n + 1,w,Φ,β,s,a,hr,h => by
   simp only [a4B] at h
   rw [rounds_succ]
   refine hbody _ (Exit.then (Code.rounds P c Q n) Q) (fun ch a d v w hd h => hQ ch a d v w hd h) hr (fun e s' a' w' Φ' β' hr' h' => ?_) h
   cases e with
   | norm => exact a6v hQ hbody hk n hr' h'
   | out id => exact hk (.out id) s' a' w' Φ' β' hr' h'
   | ret => exact hk .ret s' a' w' Φ' β' hr' h'
   | pan t j n => exact hk (.pan t j n) s' a' w' Φ' β' hr' h'
def c5T (N:Frm) (c:Code):Prop:=∀ t v,N.fix t = some v → o5 [t] N.n c = true
theorem a5e {fx:List Nat} {n:Nat} {x y:Code} (h:o5 fx n (.seq x y) = true):o5 fx n x = true ∧ o5 fx n y = true:=by simpa [o5] using h
theorem a0T {fx:List Nat} {n:Nat} {o:Operand} {x y:Code} (h:o5 fx n (.cond o x y) = true):o5 fx n x = true ∧ o5 fx n y = true:=by simpa [o5] using h
theorem X6 [hG:GlobR cx.gp w0 Φ0 own0] {κ:Nat} {c:Code} (hb:a7t P cx N.n κ c) (hkeep:∀ t ∈ (cx.bk κ).keep,o5 [t] N.n c = true) (hfx:∀ t v,N.fix t = some v → o5 [t] N.n c = true) {k:Ex → St → Option R} {r:R} {Q:Exit → Act → World → Prop} (hr:Rel w0 Φ0 own0 N w Φ β s a)
  (hk:∀ e s' a' w' Φ' β',Rel w0 Φ0 own0 N w' Φ' β' s' a' → k e s' = some r → Q e.Z4 a' w') (h:G3 cx κ s k = some r):c.wp P Q a w :=
 a4m (run:=fun Q a w => c.wp P Q a w) (fun hq _ _ g => wp_mono g hq) hb hkeep hfx hr hk h
end
def b6O (w:World) (β:Loc) (s:St) (b:Nat):Prop:=(∃ id ob p,look s.heap id = some ob ∧ ob.owned = true ∧ β id = some (some (b,p)) ∧ s.held id = false) ∨ ∃ id ob,look s.heap id = some ob ∧ F7 w β id ob b ∧ s.held id = false
def Fut (w:World) (β:Loc) (s:St) (w':World):Prop:=Same w (b6O w β s) w'
section
variable {P:Program} {R:Type} {w0:World} {Φ0 own0:Nat → Prop} {N:Frm} {w w':World} {Φ Φ':Nat → Prop} {β β':Loc} {s s':St} {a a':Act}
variable {cx:Cx}
theorem a6l [hG:GlobR cx.gp w0 Φ0 own0] (hok:AllOk P cx) {ops:Array Oper} {i:Nat} {o:Oper} (hoi:ops[i]? = some o) (hN:∀ d,o.dst = some d → N.ok d) {K:Act → World → Prop} {Q:Exit → Act → World → Prop} {k:St → Option R} {kp:F6 R} {r:R}
  (hr:Rel w0 Φ0 own0 N w Φ β s a) (hk:∀ s' a' w' Φ' β',Rel w0 Φ0 own0 N w' Φ' β' s' a' → k s' = some r → K a' w') (hkp:∀ t j n s' w' Φ' β',Rel w0 Φ0 own0 N w' Φ' β' s' a → kp t j n s' = some r → Q (a3w t j n) a w') (h:a6k cx ops.toList o s k kp = some r):wpOp P ops Q i K a w:=by
 have yes:∀ {s1:St},Rel w0 Φ0 own0 N w Φ β s1 a → O1 cx o s1 k kp = some r → o.wp P a w K Q:=fun hr1 h1 => a6T hok hr1 hN hk hkp h1
 have no:∀ {s1:St},Rel w0 Φ0 own0 N w Φ β s1 a → k (s1.set o.dst .skip) = some r → K (a.put o.dst undef) w:=fun hr1 h1 => hk _ _ _ _ _ (hr1.set (sv:=.skip) (v:=undef) rfl hN) h1
 unfold wpOp
 simp only [hoi]
 unfold a6k at h
 split at h
 · rename_i hg
   have hw:Region.wanted o (yielded ops a.tmps) = true:=by simp [Region.wanted,hg]
   rw [if_pos hw]
   exact .inl (yes hr h)
 · rename_i j want hg
   split at h
   case h_2 => cases h
   rename_i d hd
   rw [nth_getElem?,Array.getElem?_toList] at hd
   split at h
   · rename_i b hb
     have hv:a.tmps.getD d undef = .bool b:=hr.env d _ hb
     have hdl:d < a.tmps.size:=by
      rcases Nat.lt_or_ge d a.tmps.size with g | g
      · exact g
      · have:a.tmps.getD d undef = undef:=by simp [Array.getD,Nat.not_lt.2 g]
        rw [this] at hv; cases hv
     have hy:yielded ops a.tmps j = some b:=by
      simp only [yielded,hd,bind_some,getD_some hv hdl]
     have hw:Region.wanted o (yielded ops a.tmps) = (some b == some want):=by simp only [Region.wanted,hg,hy]
     have hs1:Rel w0 Φ0 own0 N w Φ β (s.set (some d) (.one (.bool b))) a:=a9n hr (by rw [hv]; rfl)
     cases b <;> cases want <;> simp only [Y0,cond_true,cond_false] at h <;> rw [hw]
     · rw [if_pos (by rfl)]; exact .inl (yes hs1 h)
     · rw [if_neg (by decide)]; exact no hs1 h
     · rw [if_neg (by decide)]; exact no hs1 h
     · rw [if_pos (by rfl)]; exact .inl (yes hs1 h)
   · rename_i hb
     have hv:a.tmps.getD d undef = undef:=hr.env d _ hb
     have hy:yielded ops a.tmps j = none:=by
      simp only [yielded,hd,bind_some]
      rcases Nat.lt_or_ge d a.tmps.size with g | g
      · rw [getD_some hv g]; rfl
      · rw [Array.getElem?_eq_none g]
     have hw:Region.wanted o (yielded ops a.tmps) = false:=by simp only [Region.wanted,hg,hy]; rfl
     rw [hw]
     exact no hr h
   · cases h
theorem a5A (hr:Rel w0 Φ0 own0 N w Φ β s a) {id:Nat} {ob:SObj} {b p:Nat} (hl:look s.heap id = some ob) (ho:(ob.owned = true ∧ s.held id = true) ∨ ∃ e l,ob = .frz e l) (hb:β id = some (some (b,p))) (hw:Fut w β s w'):w'.heap[b]? = w.heap[b]?:=by
 refine hw.block b (hr.hp.blt _ _ _ hb) ?_
 rintro (⟨id',ob',q,h1,h2,h3,h4⟩ | ⟨id',ob',h1,h2,h4⟩)
 · rcases ho with ⟨ho,hh⟩ | ⟨e,l,rfl⟩
   · have:=hr.hp.inj id id' ob ob' b p q hl h1 ho h2 hb h3
     subst this
     rw [hh] at h4; cases h4
   · rcases hr.hp.ob id _ hl with ⟨k1,_⟩ | ⟨b',o',k1,k2,_⟩
     · rw [hb] at k1; cases k1
     · rw [hb] at k1; cases k1
       exact a1Q (hr.hp.ob id' ob' h1) h2 h3 k2
 · obtain ⟨g1,g2,g3⟩:=hr.hp.rin id' ob' b h1 h2
   rcases ho with ⟨ho,hh⟩ | ⟨e,l,rfl⟩
   · exact g3 id ob p hl ho hb
   · rcases hr.hp.ob id _ hl with ⟨k1,_⟩ | ⟨b',o',k1,k2,_⟩
     · rw [hb] at k1; cases k1
     · rw [hb] at k1; cases k1
       exact g1 k2
theorem c3I (hr:Rel w0 Φ0 own0 N w Φ β s a) {b:Nat} (hb:Φ b) (hw:Fut w β s w'):w'.heap[b]? = w.heap[b]?:=by
 refine hw.block b (hr.hp.flt b hb) ?_
 rintro (⟨id',ob',q,h1,h2,h3,h4⟩ | ⟨id',ob',h1,h2,h4⟩)
 · exact a1Q (hr.hp.ob id' ob' h1) h2 h3 hb
 · exact (hr.hp.rin id' ob' b h1 h2).1 hb
theorem b2q (hok:AllOk P cx) {o:Oper} {k:St → Option R} {r:R} {s0:St} (hh:s0.hold = s.hold) (hhp:s0.heap = s.heap) (hr:Rel w0 Φ0 own0 N w Φ β s0 a) (hst:D3 o s0 = true) (h:j6 cx o s0 k = some r):C2 P R (Fut w β s) w Φ β s0 a o k r:=by
 have up:C2 P R (fun _ => True) w Φ β s0 a o k r → C2 P R (Fut w β s) w Φ β s0 a o k r:=fun ⟨x,v,h1,h2,h3⟩ => ⟨x,v,fun w' _ => h1 w' trivial,h2,h3⟩
 have hfut:∀ w',Fut w β s w' → Fut w β s0 w':=fun w' h => by
  refine ⟨h.os,h.tape,h.output,h.size,fun b hb hn => h.block b hb ?_⟩
  rintro (⟨id,ob,p,h1,h2,h3,h4⟩ | ⟨id,ob,h1,h2,h4⟩)
  · exact hn (.inl ⟨id,ob,p,by rw [hhp]; exact h1,h2,h3,by unfold St.held at *; rw [hh]; exact h4⟩)
  · exact hn (.inr ⟨id,ob,by rw [hhp]; exact h1,h2,by unfold St.held at *; rw [hh]; exact h4⟩)
 cases ho:o.op with
 | move x => exact up (a3U hr (.inl ho) h)
 | assign x => exact up (a3U hr (.inr ho) h)
 | pick c x y => exact up (a8U hr ho h)
 | build t ps => exact up (a6B hok.ok hr ho h)
 | makeFunc fn x y =>
   cases fn with
   | func f => exact up (a2q hr ho h)
   | _ => simp [j6,ho] at h
 | load t x =>
   have hng:gOp cx.gv x = none:=by
    cases x <;> first | rfl | (simp [D3,ho,l6] at hst; done)
   have hnt:∀ id i e l,l6 s0.env x = some (.one (.eptr id i 0)) → look s0.heap id = some (.rows e l none) → s0.held id = true:=by
    intro id i e l hv hl
    simp only [D3,ho,hv,hl,Bool.or_false] at hst
    exact hst
   refine b5n (K:=fun b => ∀ w',Fut w β s w' → w'.heap[b]? = w.heap[b]?) hok.ok hr (fun w' h b hb => hb w' h) ho (fun v hv => ?_) hnt hng h
   simp only [D3,ho,hv] at hst
   have hld:∃ td,L5 s0 td v (fun r => k (s0.set o.dst r)) = some r:=by
    simp only [j6,ho,hng] at h
    split at h
    · rename_i td u htd hx
      rw [hv] at hx; cases hx
      rcases a6s h with h | ⟨id,i,e,l,n,row,e1,e2,e3,e4,e5⟩
      · exact ⟨td,h⟩
      · subst e1
        have:=hnt id i e l hv e2
        unfold c2I at e5
        rw [this] at e5
        cases e5
    · cases h
   obtain ⟨td,hld⟩:=hld
   unfold a7i
   split
   · rename_i id off
     intro b p hb w' hw'
     simp only at hst
     cases hl:look s0.heap id with
     | none => simp [L5,hl] at hld
     | some ob =>
       have hown:ob.owned = true:=by
        cases ob with
        | dead => simp [L5,hl] at hld
        | frz _ _ => simp [L5,hl] at hld
        | _ => rfl
       exact a5A hr hl (.inl ⟨hown,hst⟩) hb (hfut w' hw')
   · rename_i id i off
     intro b p hb w' hw'
     simp only [Bool.or_eq_true] at hst
     cases hl:look s0.heap id with
     | none => simp [L5,hl] at hld
     | some ob =>
       refine a5A hr hl ?_ hb (hfut w' hw')
       cases ob with
       | dead => simp [L5,hl] at hld
       | frz e l => exact .inr ⟨e,l,rfl⟩
       | _ =>
         rcases hst with g | g
         · exact .inl ⟨rfl,g⟩
         · rw [hl] at g; cases g
   · intro b hb w' hw'
     exact c3I hr hb (hfut w' hw')
   · trivial
 | lookup t x i b =>
   refine b2e (K:=fun b => ∀ w',Fut w β s w' → w'.heap[b]? = w.heap[b]?) hok.ok hr (fun w' h b hb => hb w' h) ho (fun id hv b p hb hm w' hw' => ?_) (fun id kt e l hv hl => by simp only [D3,ho,hv] at hst; exact hst) h
   obtain ⟨c,v,g,l,hm⟩:=hm
   simp only [D3,ho,hv] at hst
   exact a5A hr hm (.inl ⟨rfl,hst⟩) hb (hfut w' hw')
 | nilCheck x => exact up (a2r hr ho h)
 | binOp op t x y t' => exact up (b1b hok.ok hr ho h)
 | unOp op t x => exact up (b3I hr ho h)
 | convert t d x => exact up (a3z hok.ok hr ho hst h)
 | slice t x lo hi mx =>
   cases mx with
   | none => exact up (a6F hok.ok hr ho h)
   | some m => simp [D3,ho] at hst
 | fieldAddr t x f => exact up (a1F hok.ok hr ho h)
 | field t x f => exact up (a6C hok.ok hr ho h)
 | indexAddr t x i => exact up (a1G hok.ok hr ho h)
 | index t x i => exact up (a6D hok.ok hr ho h)
 | extract x i => exact up (a3A hr ho h)
 | call c =>
   simp only [D3,ho] at hst
   split at hst
   · rename_i hc
     refine up (b1c hok.ok hr ho hc (fun x id hx he => ?_) h)
     rw [hx] at hst
     simp only [he] at hst
     cases hst
   · rename_i hc; exact up (a5N hr ho (.inl hc) h)
   · rename_i hc; exact up (a5N hr ho (.inr hc) h)
   · cases hst
 | _ => simp [D3,ho] at hst
theorem b0c (hok:AllOk P cx) {ops:Array Oper} {o:Oper} {k:St → Option R} {r:R} (hN:∀ d,o.dst = some d → N.ok d) (hr:Rel w0 Φ0 own0 N w Φ β s a)
  (h:b0C cx ops.toList o s k = some r):∃ v s',YieldsIf P ops (Fut w β s) o v a ∧ Rel w0 Φ0 own0 N w Φ β s' (a.put o.dst v) ∧ s'.heap = s.heap ∧ s'.hold = s.hold ∧ k s' = some r:=by
 have yes:∀ {s1:St},Rel w0 Φ0 own0 N w Φ β s1 a → s1.hold = s.hold → s1.heap = s.heap → stepT cx o s1 k = some r → Region.wanted o (yielded ops a.tmps) = true →
   ∃ v s',YieldsIf P ops (Fut w β s) o v a ∧ Rel w0 Φ0 own0 N w Φ β s' (a.put o.dst v) ∧ s'.heap = s.heap ∧ s'.hold = s.hold ∧ k s' = some r:=by
  intro s1 hr1 hh hhp h2 hw
  unfold stepT at h2
  obtain ⟨h1,h2⟩:=e8 h2
  obtain ⟨x,v,g1,g2,g3⟩:=b2q hok hh hhp hr1 h1 h2
  exact ⟨v,_,.inl ⟨hw,g1⟩,hr1.set g2 hN,by cases o.dst <;> exact hhp,by cases o.dst <;> exact hh,g3⟩
 have no:∀ {s1:St},Rel w0 Φ0 own0 N w Φ β s1 a → s1.heap = s.heap → s1.hold = s.hold → k (s1.set o.dst .skip) = some r → Region.wanted o (yielded ops a.tmps) = false → ∃ v s',YieldsIf P ops (Fut w β s) o v a ∧ Rel w0 Φ0 own0 N w Φ β s' (a.put o.dst v) ∧ s'.heap = s.heap ∧ s'.hold = s.hold ∧ k s' = some r :=
  fun hr1 h2 h3 h1 hw => ⟨undef,_,.inr ⟨hw,rfl⟩,hr1.set (sv:=.skip) (v:=undef) rfl hN,by cases o.dst <;> exact h2,by cases o.dst <;> exact h3,h1⟩
 unfold b0C at h
 split at h
 · rename_i hg
   exact yes hr rfl rfl h (by simp [Region.wanted,hg])
 · rename_i j want hg
   split at h
   case h_2 => cases h
   rename_i d hd
   rw [nth_getElem?,Array.getElem?_toList] at hd
   split at h
   · rename_i b hb
     have hv:a.tmps.getD d undef = .bool b:=hr.env d _ hb
     have hdl:d < a.tmps.size:=by
      rcases Nat.lt_or_ge d a.tmps.size with g | g
      · exact g
      · have:a.tmps.getD d undef = undef:=by simp [Array.getD,Nat.not_lt.2 g]
        rw [this] at hv; cases hv
     have hy:yielded ops a.tmps j = some b:=by
      simp only [yielded,hd,bind_some,getD_some hv hdl]
     have hw:Region.wanted o (yielded ops a.tmps) = (some b == some want):=by simp only [Region.wanted,hg,hy]
     have hs1:Rel w0 Φ0 own0 N w Φ β (s.set (some d) (.one (.bool b))) a:=a9n hr (by rw [hv]; rfl)
     cases b <;> cases want <;> simp only [Y0,cond_true,cond_false] at h
     · exact yes hs1 rfl rfl h (by rw [hw]; rfl)
     · exact no hs1 rfl rfl h (by rw [hw]; decide)
     · exact no hs1 rfl rfl h (by rw [hw]; decide)
     · exact yes hs1 rfl rfl h (by rw [hw]; rfl)
   · rename_i hb
     have hv:a.tmps.getD d undef = undef:=hr.env d _ hb
     have hy:yielded ops a.tmps j = none:=by
      simp only [yielded,hd,bind_some]
      rcases Nat.lt_or_ge d a.tmps.size with g | g
      · rw [getD_some hv g]; rfl
      · rw [Array.getElem?_eq_none g]
     exact no hr rfl rfl h (by simp only [Region.wanted,hg,hy]; rfl)
   · cases h
theorem a0f {md:Region.Mode} {ops:Array Oper} {Q:Exit → Act → World → Prop} {S S':World → Prop} (h:∀ w,S w → S' w):∀ (n:Nat) (listed:Array Bool) (a:Act) (w:World),wpAnyH P md ops Q S n listed a w → wpAnyH P md ops Q S' n listed a w
 | 0,_,_,_,g => g
 | n + 1,listed,a,w,g => ⟨g.1,fun i hi => wpOp_mono (fun a' w' g' => ⟨h _ g'.1,a0f h n _ a' w' g'.2⟩) (g.2 i hi)⟩
def b2T (own0:Nat → Prop) (w0:World) (N:Frm) (w:World) (β:Loc) (s:St):Frm :=
 ⟨N.n,N.fix,fun id x => s.held id = true ∧ β id = some x ∧ ∀ b p,x = some (b,p) → own0 b ∨ w0.heap.size ≤ b ∨ ∃ p,N.held id (some (b,p)),N.kid,w,β,s.heap,N.dfs⟩
theorem b0b {s:St} (h:a2C s = true) {id:Nat} {o:SObj} (hl:look s.heap id = some o) (hr:o.C6 = true):s.held id = false:=by
 have mem:∀ (l:List (Nat × SObj)),look l id = some o → id ∈ a8t l:=by
  intro l
  induction l with
  | nil => intro h; cases h
  | cons x l ih =>
    obtain ⟨j,y⟩:=x
    intro h
    rw [g9] at h
    simp only [a8t,List.mem_cons]
    split at h
    · rename_i e; exact .inl e.symm
    · exact .inr (ih h)
 have:=List.all_eq_true.1 h id (mem _ hl)
 rw [hl] at this
 cases o <;> first | simpa using this | cases hr
theorem Rel.a8Z (hr:Rel w0 Φ0 own0 N w Φ β s a) (hrf:a2C s = true):Rel w Φ (b6O w β s) (b2T own0 w0 N w β s) w Φ β s a:={
 rown:=fun id o c h1 h2 => .inl (.inr ⟨id,o,h1,h2,by
  cases hir:o.C6 with
  | false => exact absurd h2 (n9 hir)
  | true => exact b0b hrf h1 hir⟩)
 env:=hr.env
 hp:=hr.hp
 own:=fun id o b p h1 h2 h3 => by
  cases hh:s.held id with
  | false => exact .inl (.inl ⟨id,o,p,h1,h2,h3,hh⟩)
  | true => exact .inr (.inr ⟨p,hh,h3,fun b' p' e => by cases e; exact hr.own id o b p h1 h2 h3⟩)
 same:=.refl _ _
 fri:=fun _ h => h
 fro:=fun _ h => .inl h
 size:=hr.size
 fix:=hr.fix
 defers:=hr.defers
 hold:=fun id x h => ⟨h.1,h.2.1⟩
 keep:=fun id _ => .refl .. }
theorem Rel.a0y (hr:Rel w0 Φ0 own0 N w Φ β s a) {b:Nat} (h:b6O w β s b):own0 b ∨ w0.heap.size ≤ b:=by
 rcases h with ⟨id,ob,p,h1,h2,h3,h4⟩ | ⟨id,ob,h1,h2,_⟩
 · exact hr.a9U h4 h1 h2 h3
 · exact hr.rown id ob b h1 h2
theorem Rel.b2w (hr:Rel w0 Φ0 own0 N w Φ β s a) (h:Rel w Φ (b6O w β s) (b2T own0 w0 N w β s) w' Φ' β' s' a'):Rel w0 Φ0 own0 N w' Φ' β' s' a':={
 rown:=fun id o c h1 h2 => by
  rcases h.rown id o c h1 h2 with g | g
  · exact hr.a0y g
  · exact .inr (Nat.le_trans hr.same.size g)
 env:=h.env
 hp:=h.hp
 own:=fun id o b p h1 h2 h3 => by
  rcases h.own id o b p h1 h2 h3 with g | g | ⟨q,g⟩
  · exact (hr.a0y g).elim .inl (fun g => .inr (.inl g))
  · exact .inr (.inl (Nat.le_trans hr.same.size g))
  · exact g.2.2 b q rfl
 same:=⟨h.same.os.trans hr.same.os,h.same.tape.trans hr.same.tape,h.same.output.trans hr.same.output,Nat.le_trans hr.same.size h.same.size,fun b h1 h2 => by
  rw [h.same.block b (Nat.lt_of_lt_of_le h1 hr.same.size) (fun g => by rcases hr.a0y g with g | g; exact h2 g; omega),hr.same.block b h1 h2]⟩
 fri:=fun b hb => h.fri b (hr.fri b hb)
 fro:=fun b hb => by
  rcases h.fro b hb with g | g | g
  · exact hr.fro b g
  · exact .inr (hr.a0y g)
  · exact .inr (.inr (Nat.le_trans hr.same.size g))
 size:=h.size
 fix:=h.fix
 defers:=h.defers
 hold:=fun id x hx => h.hold id x ⟨(hr.hold id x hx).1,(hr.hold id x hx).2,fun b p e => by subst e; exact .inr (.inr ⟨p,hx⟩)⟩
 keep:=fun id hid => (hr.keep id hid).trans (h.keep id hid) }
theorem b6j (hr:Rel w Φ (b6O w β s) (b2T own0 w0 N w β s) w' Φ' β' s' a') {w2:World} (h:Fut w' β' s' w2):Fut w β s w2 :=
 ⟨h.os.trans hr.same.os,h.tape.trans hr.same.tape,h.output.trans hr.same.output,Nat.le_trans hr.same.size h.size,fun b h1 h2 => by
  rw [h.block b (Nat.lt_of_lt_of_le h1 hr.same.size) (fun g => by rcases hr.a0y g with g | g; exact h2 g; omega),hr.same.block b h1 h2]⟩
theorem GlobR.a8Z {gp:World → (Nat → Prop) → Prop} (hG:GlobR gp w0 Φ0 own0) (hr:Rel w0 Φ0 own0 N w Φ β s a):GlobR gp w Φ (b6O w β s):={
 mono:=hG.mono
 at0:=hG.get hr
 out:=fun b hb => ⟨by
  rintro (⟨id',ob',q,h1,h2,h3,h4⟩ | ⟨id',ob',h1,h2,h4⟩)
  · exact a1Q (hr.hp.ob id' ob' h1) h2 h3 hb
  · exact (hr.hp.rin id' ob' b h1 h2).1 hb,hr.hp.flt b hb⟩ }
theorem R5 [hG:GlobR cx.gp w0 Φ0 own0] (hok:AllOk P cx) {ops:Array Oper} {Q:Exit → Act → World → Prop} {k:St → Option R} {kp:F6 R} {r:R} (hQ:∀ c a d v w,(∀ d',d = some d' → N.ok d') → Q (.panic c) (a.put d v) w → Q (.panic c) a w) (hsel:Region.noSelect ops = true) (hN:∀ (i:Nat) (o:Oper),ops[i]? = some o → ∀ d,o.dst = some d → N.ok d)
  (hk:∀ s' a' w' Φ' β',Rel w0 Φ0 own0 N w' Φ' β' s' a' → k s' = some r → Q .normal a' w') (hkp:∀ t j n s' a' w' Φ' β',Rel w0 Φ0 own0 N w' Φ' β' s' a' → kp t j n s' = some r → Q (a3w t j n) a' w'):∀ (t:OrdT) (n:Nat) (listed:Array Bool) {w:World} {Φ:Nat → Prop} {β:Loc} {s:St} {a:Act},Rel w0 Φ0 own0 N w Φ β s a → L4 cx ops.toList kp t s k = some r →
  (Q5 ops true n listed t = true → wpAnyH P .any ops Q (Fut w β s) n listed a w) ∧
  (∀ m,n = m + 1 → Q5 ops false n listed t = true → ∀ i ∈ a8f t,wpOp P ops Q i (fun a' w' => Fut w β s w' ∧ wpAnyH P .any ops Q (Fut w β s) m (listed.setIfInBounds i true) a' w') a w)
 | .done,n,listed,w,Φ,β,s,a,hr,h => by
   simp only [L4] at h
   refine ⟨fun hb => ?_,fun m _ hb => by simp [Q5] at hb⟩
   simp only [Q5,Bool.true_and,List.isEmpty_iff] at hb
   exact wpAnyH_done hb (hk _ _ _ _ _ hr h) n
 | .take i t,n,listed,w,Φ,β,s,a,hr,h => by
   refine ⟨fun hb => ?_,fun m e hb => by subst e; simp [Q5] at hb⟩
   cases n with
   | zero => simp [Q5] at hb
   | succ n =>
     simp only [Q5,Bool.true_and,and_eq_true] at hb
     simp only [L4] at h
     split at h
     case h_2 => cases h
     rename_i o ho
     have hoi:ops[i]? = some o:=by rw [nth_getElem?,Array.getElem?_toList] at ho; exact ho
     obtain ⟨v,s',g1,g2,g3,g4,g5⟩:=b0c hok (hN i o hoi) hr h
     have ih:=(R5 hok hQ hsel hN hk hkp t n _ g2 g5).1 hb.2.2
     refine wpAnyH_take hoi hsel hb.1 hb.2.1 (fun c a w h => hQ c a _ _ w (hN i o hoi) h) g1 (.refl _ _) ?_
     refine a0f (fun w' hw' => ?_) n _ _ _ ih
     exact ⟨hw'.os,hw'.tape,hw'.output,hw'.size,fun b hb hn => hw'.block b hb (fun hF => hn (by
      rcases hF with ⟨id,ob,p,a1,a2,a3,a4⟩ | ⟨id,ob,a1,a2,a4⟩
      · exact .inl ⟨id,ob,p,by rw [← g3]; exact a1,a2,a3,by unfold St.held at *; rw [← g4]; exact a4⟩
      · exact .inr ⟨id,ob,by rw [← g3]; exact a1,a2,by unfold St.held at *; rw [← g4]; exact a4⟩))⟩
 | .only i t,n,listed,w,Φ,β,s,a,hr,h => by
   have step:∀ m,n = m + 1 → Q5 ops true m (listed.setIfInBounds i true) t = true → wpOp P ops Q i (fun a' w' => Fut w β s w' ∧ wpAnyH P .any ops Q (Fut w β s) m (listed.setIfInBounds i true) a' w') a w:=by
    intro m e hb
    simp only [L4] at h
    split at h
    case h_2 => cases h
    rename_i o ho
    have hoi:ops[i]? = some o:=by rw [nth_getElem?,Array.getElem?_toList] at ho; exact ho
    obtain ⟨hrf,h⟩:=e8 h
    haveI:=hG.a8Z hr
    refine a6l (N:=b2T own0 w0 N w β s) hok hoi (hN i o hoi) (hr.a8Z hrf) (fun s' a' w' Φ' β' hr' h' => ⟨hr'.same,?_⟩) (fun ty j n s' w' Φ' β' hr' h' => hkp ty j n s' _ w' Φ' β' (hr.b2w hr') h') h
    exact a0f (fun w2 h2 => b6j hr' h2) m _ _ _ ((R5 hok hQ hsel hN hk hkp t m _ (hr.b2w hr') h').1 hb)
   refine ⟨fun hb => ?_,fun m e hb j hj => ?_⟩
   · cases n with
     | zero => simp [Q5] at hb
     | succ n =>
       simp only [Q5,Bool.not_true,Bool.false_or,and_eq_true] at hb
       refine wpAnyH_all (rs:=Region.ready .any ops listed) rfl (fun e => by rw [e] at hb; simp at hb) fun j hj => ?_
       have:=List.all_eq_true.1 hb.1.2 j hj
       have:=Nat.eq_of_beq_eq_true this
       subst this
       exact step n rfl hb.2
   · subst e
     simp only [Q5,Bool.not_false,Bool.true_or,Bool.true_and] at hb
     simp only [a8f,List.mem_singleton] at hj
     subst hj
     exact step m rfl hb
 | .alt i t q,n,listed,w,Φ,β,s,a,hr,h => by
   have parts:a2C s = true ∧ ∃ o,ops[i]? = some o ∧ a6k cx ops.toList o s (fun s' => L4 cx ops.toList kp t s' k) kp = some r ∧ L4 cx ops.toList kp q s k = some r:=by
    simp only [L4] at h
    split at h
    case h_2 => cases h
    rename_i o ho
    have hoi:ops[i]? = some o:=by rw [nth_getElem?,Array.getElem?_toList] at ho; exact ho
    obtain ⟨hrf,h⟩:=e8 h
    obtain ⟨h1,h2⟩:=a0V h
    exact ⟨hrf,o,hoi,h1,h2⟩
   obtain ⟨hrf,o,hoi,h1,h2⟩:=parts
   have all:∀ m,n = m + 1 → Q5 ops true m (listed.setIfInBounds i true) t = true → Q5 ops false (m + 1) listed q = true → ∀ j ∈ a8f (.alt i t q),wpOp P ops Q j (fun a' w' => Fut w β s w' ∧ wpAnyH P .any ops Q (Fut w β s) m (listed.setIfInBounds j true) a' w') a w:=by
    intro m e b1 b2 j hj
    subst e
    simp only [a8f,List.mem_cons] at hj
    rcases hj with hj | hj
    · subst hj
      haveI:=hG.a8Z hr
      refine a6l (N:=b2T own0 w0 N w β s) hok hoi (hN j o hoi) (hr.a8Z hrf) (fun s' a' w' Φ' β' hr' h' => ⟨hr'.same,?_⟩) (fun ty j' n s' w' Φ' β' hr' h' => hkp ty j' n s' _ w' Φ' β' (hr.b2w hr') h') h1
      exact a0f (fun w2 h2 => b6j hr' h2) m _ _ _ ((R5 hok hQ hsel hN hk hkp t m _ (hr.b2w hr') h').1 b1)
    · exact (R5 hok hQ hsel hN hk hkp q (m + 1) listed hr h2).2 m rfl b2 j hj
   refine ⟨fun hb => ?_,fun m e hb j hj => ?_⟩
   · cases n with
     | zero => simp [Q5] at hb
     | succ n =>
       simp only [Q5,Bool.not_true,Bool.false_or,and_eq_true] at hb
       refine wpAnyH_all (rs:=Region.ready .any ops listed) rfl (fun e => by rw [e] at hb; simp at hb) fun j hj => ?_
       exact all n rfl hb.2.1 hb.2.2 j (a2U.1 (List.all_eq_true.1 hb.1.2 j hj))
   · subst e
     simp only [Q5,Bool.not_false,Bool.true_or,Bool.true_and,and_eq_true] at hb
     exact all m rfl hb.1 hb.2 j hj
theorem Rel.a8g (hr:Rel w0 Φ0 own0 N w Φ β s a) (hno:∀ id b,¬ N.held id b) (l:List Nat):Rel w0 Φ0 own0 N w Φ β { s with hold:=l } a :=
 ⟨hr.env,⟨hr.hp.ob,hr.hp.lt,hr.hp.hlt,hr.hp.inj,hr.hp.blt,hr.hp.flt,hr.hp.rin,hr.hp.rinj⟩,hr.own,hr.same,hr.fri,hr.fro,hr.size,hr.fix,hr.defers,fun id x h => absurd h (hno id x),hr.keep,hr.rown⟩
theorem b1E [hG:GlobR cx.gp w0 Φ0 own0] (hok:AllOk P cx) (hno:∀ id b,¬ N.held id b) {id:Nat} {ops:Array Oper} {Q:Exit → Act → World → Prop} {k:St → Option R} {kp:F6 R} {r:R} {slots:List Nat} {t:OrdT} (hN:∀ o ∈ ops.toList,∀ d,o.dst = some d → N.ok d)
  (hc:Region.noSelect ops = true ∧ Q5 ops true ops.size (Array.replicate ops.size false) t = true) (hr:Rel w0 Φ0 own0 N w Φ β s a) (hQ:∀ c a d v w,(∀ d',d = some d' → N.ok d') → Q (.panic c) (a.put d v) w → Q (.panic c) a w)
  (hk:∀ s' a' w' Φ' β',Rel w0 Φ0 own0 N w' Φ' β' s' a' → k s' = some r → Q .normal a' w') (hkp:∀ t j n s' a' w' Φ' β',Rel w0 Φ0 own0 N w' Φ' β' s' a' → kp t j n s' = some r → Q (a3w t j n) a' w') (h:b4J cx slots t ops.toList s k kp = some r):(Code.region id ops true).wp P Q a w:=by
 unfold b4J at h
 have h1:=(R5 (Q:=Q) hok hQ hc.1 (fun i o hi d hd => hN o (by rw [← Array.getElem?_toList] at hi; exact List.mem_of_getElem? hi) d hd)
  (fun s' a' w' Φ' β' hr' h' => hk _ a' w' Φ' β' (hr'.a8g hno []) h') (fun ty j n s' a' w' Φ' β' hr' h' => hkp ty j n _ a' w' Φ' β' (hr'.a8g hno []) h') t ops.size (Array.replicate ops.size false) ((hr.a8g hno _).drew) h).1 hc.2
 exact wp_region_held hok.mixed h1
end
section
variable {P:Program} {R:Type} {w0:World} {Φ0 own0:Nat → Prop} {N:Frm} {w w' w2:World} {Φ Φ' Φ2:Nat → Prop} {β γ γ' γ2:Loc} {s s':St} {a:Act} {hp:List (Nat × SObj)}
variable {cx:Cx} {H:Hn}
theorem D8 [hG:GlobR cx.gp w0 Φ0 own0] (hok:AllOk P cx) (hno:∀ id b,¬ N.held id b):∀ (c:Code) {k:Ex → St → Option R} {r:R} {Q:Exit → Act → World → Prop} {w:World} {Φ:Nat → Prop} {β:Loc} {s:St} {a:Act},o5 [] N.n c = true → c5T N c → Hints P cx N.n H c → b6P N Q →
  Rel w0 Φ0 own0 N w Φ β s a → (∀ e s' a' w' Φ' β',Rel w0 Φ0 own0 N w' Φ' β' s' a' → k e s' = some r → Q e.Z4 a' w') → ev cx H c s k = some r → c.wp P Q a w
 | .skip,k,r,Q,w,Φ,β,s,a,_,_,_,_,hr,hk,h => wp_skip (hk .norm _ _ _ _ _ hr h)
 | .region id ops false,k,r,Q,w,Φ,β,s,a,hb,hf,_,_,hr,hk,h => by
   refine wp_region ?_
   have:=a6m (Q:=Q) hok (ops:=ops) (fun o ho d hd => by
    have:=List.all_eq_true.1 hb o ho
    simp only [hd,and_eq_true] at this
    refine ⟨by rw [← Nat.blt_eq]; exact this.1,?_⟩
    cases hfd:N.fix d with
    | none => rfl
    | some v =>
      have:=List.all_eq_true.1 (hf d v hfd) o ho
      simp [hd,fresh] at this) (fun s' a' w' Φ' β' hr' h' => hk .norm s' a' w' Φ' β' hr' h') (fun t j n s' a' w' Φ' β' hr' h' => hk (.pan t j n) s' a' w' Φ' β' hr' h') ops.toList 0 (fun j => by simp) hr h
   rwa [Array.length_toList,← List.range_eq_range'] at this
 | .region id ops true,k,r,Q,w,Φ,β,s,a,hb,hf,hh,hQ,hr,hk,h => by
   simp only [ev] at h
   split at h
   · rename_i slots t hd
     refine b1E hok hno (fun o ho d hd => ?_) (hh slots t hd) hr hQ (fun s' a' w' Φ' β' hr' h' => hk .norm s' a' w' Φ' β' hr' h') (fun t j n s' a' w' Φ' β' hr' h' => hk (.pan t j n) s' a' w' Φ' β' hr' h') h
     have:=List.all_eq_true.1 hb o ho
     simp only [hd,and_eq_true] at this
     refine ⟨by rw [← Nat.blt_eq]; exact this.1,?_⟩
     cases hfd:N.fix d with
     | none => rfl
     | some v =>
       have:=List.all_eq_true.1 (hf d v hfd) o ho
       simp [hd,fresh] at this
   · cases h
 | .seq x y,k,r,Q,w,Φ,β,s,a,hb,hf,hh,hQ,hr,hk,h => by
   simp only [o5,and_eq_true] at hb
   simp only [ev] at h
   refine wp_seq (D8 hok hno x hb.1 (fun t v h => (a5e (hf t v h)).1) hh.1 (fun c a d v w hd h => hQ c a d v w hd h) hr (fun e s' a' w' Φ' β' hr' h' => ?_) h)
   cases e with
   | norm =>
     have hh2:=hh.2
     show y.wp P Q a' w'
     simp only at h'
     split at h'
     · rename_i κ hκ
       rw [hκ] at hh2
       exact X6 hh2.1 hh2.2 (fun t v h => (a5e (hf t v h)).2) hr' hk h'
     · rename_i hκ
       rw [hκ] at hh2
       exact D8 hok hno y hb.2 (fun t v h => (a5e (hf t v h)).2) hh2 hQ hr' hk h'
   | out id => exact hk (.out id) s' a' w' Φ' β' hr' h'
   | ret => exact hk .ret s' a' w' Φ' β' hr' h'
   | pan t j n => exact hk (.pan t j n) s' a' w' Φ' β' hr' h'
 | .cond c x y,k,r,Q,w,Φ,β,s,a,hb,hf,hh,hQ,hr,hk,h => by
   simp only [o5,and_eq_true] at hb
   simp only [ev] at h
   split at h
   case h_3 => cases h
   case h_2 =>
    rename_i hc
    obtain ⟨t,hcv⟩:∃ t,a.eval c = .bool t:=hr.eval hc
    obtain ⟨h1,h2⟩:=a0V h
    refine wp_cond hcv ?_
    cases t with
    | true => exact D8 hok hno x hb.1 (fun t v h => (a0T (hf t v h)).1) hh.1 hQ hr hk h1
    | false => exact D8 hok hno y hb.2 (fun t v h => (a0T (hf t v h)).2) hh.2 hQ hr hk h2
   rename_i t hc
   have hcv:a.eval c = .bool t:=hr.eval hc
   refine wp_cond hcv ?_
   cases t with
   | true => exact D8 hok hno x hb.1 (fun t v h => (a0T (hf t v h)).1) hh.1 hQ hr hk h
   | false => exact D8 hok hno y hb.2 (fun t v h => (a0T (hf t v h)).2) hh.2 hQ hr hk h
 | .block id c,k,r,Q,w,Φ,β,s,a,hb,hf,hh,hQ,hr,hk,h => by
   simp only [ev] at h
   simp only [Hints] at hh
   split at h
   · rename_i κ hκ
     rw [hκ] at hh
     exact X6 hh.1 hh.2 hf hr hk h
   · rename_i hκ
     rw [hκ] at hh
     refine wp_block (D8 hok hno c hb hf hh (fun c a d v w hd h => hQ c a d v w hd h) hr (fun e s' a' w' Φ' β' hr' h' => ?_) h)
     cases e with
     | norm => exact hk .norm s' a' w' Φ' β' hr' h'
     | pan t j n => exact hk (.pan t j n) s' a' w' Φ' β' hr' h'
     | ret => exact hk .ret s' a' w' Φ' β' hr' h'
     | out id' =>
       show (if id' = id then Q .normal a' w' else Q (.exit id') a' w')
       simp only at h'
       cases hbq:Nat.beq id' id with
       | true => rw [hbq] at h'; rw [if_pos (Nat.eq_of_beq_eq_true hbq)]; exact hk .norm s' a' w' Φ' β' hr' h'
       | false => rw [hbq] at h'; rw [if_neg (fun e => by rw [e,Nat.beq_refl] at hbq; cases hbq)]; exact hk (.out id') s' a' w' Φ' β' hr' h'
 | .loop c,k,r,Q,w,Φ,β,s,a,hb,hf,hh,hQ,hr,hk,h => by
   simp only [ev] at h
   exact wp_loop_rounds 16 (a6v hQ (fun k Q hQ' {w Φ β s a} hr hk h => D8 hok hno c hb hf hh hQ' hr hk h) hk 16 hr h)
 | .exit id,k,r,Q,w,Φ,β,s,a,_,_,_,_,hr,hk,h => wp_exit (hk (.out id) _ _ _ _ _ hr h)
 | .ret,k,r,Q,w,Φ,β,s,a,_,_,_,_,hr,hk,h => wp_ret (hk .ret _ _ _ _ _ hr h)
 | .rangeFunc _ _ _ _,k,r,Q,w,Φ,β,s,a,_,_,_,_,hr,hk,h => by simp [ev] at h
 | .scope _,k,r,Q,w,Φ,β,s,a,_,_,_,_,hr,hk,h => by simp [ev] at h
 | .label _,k,r,Q,w,Φ,β,s,a,_,_,_,_,hr,hk,h => by simp [ev] at h
 | .goto _,k,r,Q,w,Φ,β,s,a,_,_,_,_,hr,hk,h => by simp [ev] at h
 | .refuse _,k,r,Q,w,Φ,β,s,a,_,_,_,_,hr,hk,h => by simp [ev] at h
def a9b (tmps:Array Value):ResultVar → Sem Value
 | .tmp t => pure (tmps.getD t undef)
 | .cell a t => do loadVar t (← asAddr (tmps.getD a undef))
theorem a2z (hok:AllOk P cx) (hr:Rel w0 Φ0 own0 N w Φ β s a):∀ (rs:List ResultVar) (vs:List SVal),F3 cx s rs = some vs → ∃ us,(rs.mapM (a9b a.tmps)).run P w = .ok us w ∧ E9 w Φ β s.heap vs us
 | [],vs,h => by simp [F3] at h; subst h; exact ⟨[],by simp,rfl⟩
 | x :: rs,vs,h => by
   simp only [F3] at h
   split at h
   case h_2 => cases h
   rename_i v vs' hx hxs
   cases h
   obtain ⟨us,g1,g2⟩:=a2z hok hr rs vs' hxs
   cases x with
   | tmp t =>
     simp only [a9d] at hx
     exact ⟨a.tmps.getD t undef :: us,by simp [List.mapM_cons,a9b,g1],_,_,rfl,hr.env t v hx,g2⟩
   | cell t ty =>
     simp only [a9d] at hx
     split at hx
     case h_2 => cases hx
     rename_i td p htd hp'
     obtain ⟨x,b,o,val,k1,k2,k3,k4⟩:=b7Z (hok.ok.tab ty _ htd) hr (hr.env t p hp') hx
     cases k4
     exact ⟨val :: us,by simp [List.mapM_cons,a9b,k1,asAddr,k2,g1],val,us,rfl,k3,g2⟩
theorem b8t (us:List Value):(if h:us.toArray.size = 1 then us.toArray[0] else .tuple us.toArray) = a0o us:=by
 match us with
 | [] => rfl
 | [v] => rfl
 | _ :: _ :: _ => rfl
theorem a2E (fn:Func) (tmps:Array Value) {us:List Value} (h:(fn.results.toList.mapM (a9b tmps)).run P w = .ok us w):(results fn tmps).run P w = .ok (a0o us) w:=by
 have e:results fn tmps = (do let vs ← fn.results.mapM (a9b tmps); pure (if h:vs.size = 1 then vs[0] else .tuple vs)):=by
  unfold results
  congr 1
 rw [e,Array.mapM_eq_mapM_toList]
 simp only [Sem.run_bind,Sem.run_map,h,Result.andThen_ok,Sem.run_pure]
 rw [b8t]
theorem a8P {b:Bool} {ρ0:Rho} {T:Tm} {vs:List SVal} {x} (h:b1a b ρ0 T vs s = some x):T.O6 = b ∧ a4I T ρ0 vs s = some x:=by
 unfold b1a at h
 obtain ⟨h1,h2⟩:=e8 h
 exact ⟨(eq_of_beq h1).symm,h2⟩
theorem b0f {T:Tm} {ds:List Dyn} {vs:List Value} (h:InstR w Φ T ds vs γ):vs.length = T.slots.length:=by
 have h1:=a4c h.M4
 have:∀ (l:List SlT) (ds:List Dyn),(E8 l ds).1.length = l.length:=by
  intro l
  induction l with
  | nil => intro ds; rfl
  | cons x l ih => intro ds; simp [E8,ih]
 rw [h1]; exact this _ _
theorem c0r (hok:AllOk P cx) {f φ:Nat} {fn:Func} {c:Code} (hfn:P.funcs[f]? = some fn) (hb:fn.body = some c) (hlen:(cx.kin φ).slots.length ≤ fn.ntmps) (hB:o5 [] fn.ntmps c = true)
  (hH:Hints P cx fn.ntmps H c):∀ d y,b7B cx H φ c fn.results.toList d = some y → ∀ (w:World) (Φ:Nat → Prop) (vs:List Value) (γ:Loc),cx.gp w Φ → InstR w Φ (cx.kin φ) (l8 (cx.kin φ).cts d) vs γ →
  Calls P f vs.toArray w fun e w' => ∃ Φ' γ' rs,O9 (fun T' ds' => e = T'.ending rs ∧ InstR w' Φ' T' ds' rs γ' ∧ PostR w Φ γ (cx.kin φ) (l8 (cx.kin φ).cts d) w' Φ' γ' T' ds') (cx.kouts φ) y:=by
 intro d y h w Φ vs γ hg hi
 haveI:=GlobR.enter hok.gpm hg hi
 have hvl:=b0f hi
 refine calls_of_wp hfn hb ?_
 let a0:Act:={ tmps:=vs.toArray ++ Array.replicate (fn.ntmps - vs.toArray.size) undef,defers:=[] }
 have hsz:a0.tmps.size = fn.ntmps:=by simp [a0]; omega
 have hget:∀ t v,vs[t]? = some v → a0.tmps.getD t undef = v:=by
  intro t v ht
  have hlt:=(List.getElem?_eq_some_iff.1 ht).1
  have:a0.tmps[t]? = some v:=by
   simp only [a0]
   rw [Array.getElem?_append_left (by simpa using hlt)]
   simpa using ht
  rw [Array.getD_eq_getD_getElem?,this]; rfl
 have hslots:((List.range (cx.kin φ).slots.length).map fun t => a0.tmps.getD t undef) = vs:=by
  apply List.ext_getElem?
  intro i
  simp only [List.getElem?_map]
  by_cases hi:i < (cx.kin φ).slots.length
  · rw [List.getElem?_range hi]
    have hv:vs[i]? = some vs[i]:=List.getElem?_eq_getElem (by omega)
    rw [hv]; simp only [Option.map_some]; rw [hget i _ hv]
  · rw [List.getElem?_eq_none (by simpa using hi),List.getElem?_eq_none (by omega)]; rfl
 have hr0:=a2V (a:=a0) (slots:=List.range (cx.kin φ).slots.length) (fix:=fun _ => none) (by rw [hslots]; exact hi) hsz (fun t v h => by cases h) rfl
 unfold b7B at h
 have hsz0:∀ {a':Act} {w':World} {Φ':Nat → Prop} {β':Loc} {s':St} {us:List Value} {rv:List SVal} {bb:Bool} {y:(H4 (cx.kouts φ)).denote},
   Rel w Φ (a0s w γ ((cx.kin φ).heap (l8 (cx.kin φ).cts d))) ⟨fn.ntmps,fun _ => none,fun _ _ => False,D6 (cx.kin φ),w,γ,(cx.kin φ).heap (l8 (cx.kin φ).cts d),[]⟩ w' Φ' β' s' a' → E9 w' Φ' β' s'.heap rv us →
   J3 bb (s4 0 (cx.kin φ).objs) (cx.kouts φ) rv s' = some y → ∃ Φ2 γ2,O9 (fun T' ds' => T'.O6 = bb ∧ InstR w' Φ2 T' ds' us γ2 ∧ PostR w Φ γ (cx.kin φ) (l8 (cx.kin φ).cts d) w' Φ2 γ2 T' ds') (cx.kouts φ) y:=by
  intro a' w' Φ' β' s' us rv bb y hr' g2 h'
  have:∀ (l:List Tm) (y:(H4 l).denote),J3 bb (s4 0 (cx.kin φ).objs) l rv s' = some y → ∃ Φ2 γ2,O9 (fun T' ds' => T'.O6 = bb ∧ InstR w' Φ2 T' ds' us γ2 ∧ PostR w Φ γ (cx.kin φ) (l8 (cx.kin φ).cts d) w' Φ2 γ2 T' ds') l y:=by
   intro l
   induction l with
   | nil => intro y h; cases h
   | cons T' l ih =>
     intro y h
     have one:∀ d' ρ s1,b1a bb (s4 0 (cx.kin φ).objs) T' rv s' = some (d',ρ,s1) → ∃ Φ2 γ2,T'.O6 = bb ∧ InstR w' Φ2 T' (l8 T'.cts d') us γ2 ∧ PostR w Φ γ (cx.kin φ) (l8 (cx.kin φ).cts d) w' Φ2 γ2 T' (l8 T'.cts d'):=by
      intro d' ρ s1 hd
      obtain ⟨hp,hd⟩:=a8P hd
      obtain ⟨Φ2,β2,hP⟩:=I5 hr' g2 hd
      exact ⟨Φ2,_,hp,hP.inst,a2j rfl rfl rfl rfl hP⟩
     cases l with
     | nil =>
       simp only [J3] at h
       split at h
       · rename_i d' ρ s1 hd; cases h; exact one _ _ _ hd
       · cases h
     | cons T2 l =>
       simp only [J3] at h
       split at h
       · rename_i d' ρ s1 hd; cases h; exact one _ _ _ hd
       · split at h
         · rename_i d' hd; cases h; exact ih _ hd
         · cases h
  exact this _ _ h'
 refine D8 (Q:=bodyPost P fn _) hok (N:=⟨fn.ntmps,fun _ => none,fun _ _ => False,D6 (cx.kin φ),w,γ,(cx.kin φ).heap (l8 (cx.kin φ).cts d),[]⟩) (fun _ _ h => h) c hB (fun t v hv => by cases hv) hH (fun ch a dd v w' _ h => ⟨by have:=h.1; rwa [P5] at this,h.2⟩) hr0 (fun e s' a' w' Φ' β' hr' h' => ?_) h
 have fin:(match F3 cx s' fn.results.toList with
   | some vs => J3 false (s4 0 (cx.kin φ).objs) (cx.kouts φ) vs s'
   | none => none) = some y → a'.defers = [] ∧ ∃ v,(results fn a'.tmps).run P w' = .ok v w' ∧ ∃ Φ' γ' rs,
   O9 (fun T' ds' => Ending.returned v = T'.ending rs ∧ InstR w' Φ' T' ds' rs γ' ∧ PostR w Φ γ (cx.kin φ) (l8 (cx.kin φ).cts d) w' Φ' γ' T' ds') (cx.kouts φ) y:=by
  intro h'
  split at h'
  case h_2 => cases h'
  rename_i rv hrv
  obtain ⟨us,g1,g2⟩:=a2z hok hr' _ _ hrv
  obtain ⟨Φ2,γ2,h2⟩:=hsz0 hr' g2 h'
  exact ⟨hr'.defers,_,a2E fn _ g1,Φ2,γ2,us,O9.mono (fun T ds ⟨k1,k2⟩ => ⟨by rw [Tm.ending,k1],k2⟩) h2⟩
 cases e with
 | norm => exact fin h'
 | ret => exact fin h'
 | out id => cases h'
 | pan t j n =>
   obtain ⟨Φ2,γ2,h2⟩:=hsz0 (us:=[.iface t (.int j n)]) (rv:=[.one (.pan t j n)]) hr' ⟨_,_,rfl,rfl,rfl⟩ h'
   exact ⟨hr'.defers,Φ2,γ2,[.iface t (.int j n)],O9.mono (fun T ds ⟨k1,k2⟩ => ⟨by rw [Tm.ending,k1]; rfl,k2⟩) h2⟩
theorem PostR.trans {T T':Tm} {ds d1 ds':List Dyn} (h:PostR w Φ γ T ds w' Φ' γ' T d1) (k:PostR w' Φ' γ' T d1 w2 Φ2 γ2 T' ds'):PostR w Φ γ T ds w2 Φ2 γ2 T' ds':={
 same:=⟨k.same.os.trans h.same.os,k.same.tape.trans h.same.tape,k.same.output.trans h.same.output,Nat.le_trans h.same.size k.same.size,fun b h1 h2 => by
  rw [k.same.block b (Nat.lt_of_lt_of_le h1 h.same.size) (fun hm => by
   rcases h.mem b hm with g | g
   · exact h2 g
   · omega),h.same.block b h1 h2]⟩
 mem:=fun b hb => by
  rcases k.mem b hb with g | g
  · exact h.mem b g
  · exact .inr (Nat.le_trans h.same.size g)
 sub:=fun b hb => k.sub b (h.sub b hb)
 fro:=fun b hb => by
  rcases k.fro b hb with g | g | g
  · exact h.fro b g
  · exact .inr (h.mem b g)
  · exact .inr (.inr (Nat.le_trans h.same.size g))
 keep:=fun i hi => (h.keep i hi).trans (k.keep i hi) }
theorem a2A {c:Code} {Q Q':Exit → Act → World → Prop} (hq:∀ e a w,Q e a w → Q' e a w):∀ (n:Nat) {a:Act} {w:World},Code.rounds P c Q n a w → Code.rounds P c Q' n a w
 | 0,_,_,h => h
 | n + 1,a,w,h => by
   rw [rounds_succ] at *
   refine wp_mono h fun e a w g => ?_
   cases e with
   | normal => exact a2A hq n g
   | _ => exact hq _ _ _ g
theorem a4n {a:Act} (hr:Rel w0 Φ0 own0 N w' Φ' β s a) {slots:List Nat} {e e':Ex} {vs:List SVal} (h:b1G s slots e e' = some vs):∃ us,b8J e'.Z4 a slots e us ∧ E9 w' Φ' β s.heap vs us:=by
 unfold b1G at h
 split at h
 · split at h
   case isFalse => cases h
   cases h
   exact ⟨_,⟨_,rfl,rfl⟩,_,_,rfl,rfl,rfl⟩
 · rename_i hne
   split at h
   case isFalse => cases h
   rename_i he
   subst he
   refine ⟨_,?_,R1 hr h⟩
   cases e with
   | pan t j n => exact absurd rfl (hne t j n t j n rfl)
   | norm => exact ⟨rfl,rfl⟩
   | ret => exact ⟨rfl,rfl⟩
   | out id => exact ⟨rfl,rfl⟩
theorem a2k {T:Tm} {ds:List Dyn} (hkid:N.kid = D6 T) (hkw:N.kw = w) (hkβ:N.kβ = γ) (hkh:N.kh = T.heap ds) {a:Act} (hr:Rel w Φ (a0s w γ (T.heap ds)) N w' Φ' β s a) {e:Ex}:∀ {l:List (Ex × List Nat × Tm)} {y:(H0 l).denote},F2 (s4 0 T.objs) l e s = some y →
  ∃ Φ2 γ2,ExR (fun e' slots T' ds' => ∃ vs,b8J e.Z4 a slots e' vs ∧ InstR w' Φ2 T' ds' vs γ2 ∧ PostR w Φ γ T ds w' Φ2 γ2 T' ds') l y
 | [],y,h => by simp [F2] at h
 | [(e1,slots,T')],y,h => by
   simp only [F2] at h
   split at h
   case h_2 => cases h
   rename_i vs hvs
   split at h
   case h_2 => cases h
   rename_i d ρ s1 hpk
   cases h
   obtain ⟨us,hx,hv⟩:=a4n hr hvs
   obtain ⟨Φ2,β2,hP⟩:=I5 hr hv hpk
   exact ⟨Φ2,_,us,hx,hP.inst,a2j hkid hkw hkβ hkh hP⟩
 | (e1,slots,T') :: b :: r,y,h => by
   simp only [F2] at h
   split at h
   · rename_i d ρ s1 hd
     split at hd
     case h_2 => cases hd
     rename_i vs hvs
     cases h
     obtain ⟨us,hx,hv⟩:=a4n hr hvs
     obtain ⟨Φ2,β2,hP⟩:=I5 hr hv hd
     exact ⟨Φ2,_,us,hx,hP.inst,a2j hkid hkw hkβ hkh hP⟩
   · split at h
     case h_2 => cases h
     rename_i d hd
     cases h
     obtain ⟨Φ2,γ2,g⟩:=a2k hkid hkw hkβ hkh hr (l:=b :: r) hd
     exact ⟨Φ2,γ2,g⟩
theorem a2M {κ n:Nat} {fix:Nat → Option Value} {D:List Deferred} {ds:List Dyn} {y:(H0 (cx.bk κ).exits).denote} {e:Ex} {a:Act} (hr:Rel w Φ (a0s w γ ((cx.bk κ).ins.heap ds)) ⟨n,fix,fun _ _ => False,D6 (cx.bk κ).ins,w,γ,(cx.bk κ).ins.heap ds,D⟩ w' Φ' β s a)
  (h:F2 (s4 0 (cx.bk κ).ins.objs) (cx.bk κ).exits e s = some y):a7s cx κ n fix D w Φ γ ds y e.Z4 a w':=by
 obtain ⟨Φ2,γ2,g⟩:=a2k (N:=⟨n,fix,fun _ _ => False,D6 (cx.bk κ).ins,w,γ,(cx.bk κ).ins.heap ds,D⟩) (w:=w) (γ:=γ) (ds:=ds) rfl rfl rfl rfl hr h
 exact ⟨hr.size,hr.fix,hr.defers,Φ2,γ2,g⟩
theorem b2J {κ n:Nat} {fix:Nat → Option Value} {D:List Deferred} {ds:List Dyn} {y:(H0 (cx.bk κ).exits).denote} {hd:Nat → Option (Nat × Nat) → Prop} {ki:Nat → Prop} {kw:World} {kb:Loc} {kh:List (Nat × SObj)} :
  b6P ⟨n,fix,hd,ki,kw,kb,kh,D⟩ (a7s cx κ n fix D w Φ γ ds y):=by
 intro c a d v w' hok ⟨h1,h2,h3,Φ2,γ2,h4⟩
 refine ⟨by rwa [a9o] at h1,fun t u ht => ?_,by rwa [P5] at h3,Φ2,γ2,ExR.mono (fun e l T ds ⟨vs,g1,g2⟩ => ⟨vs,?_,g2⟩) h4⟩
 · have:=h2 t u ht
   cases d with
   | none => exact this
   | some d' =>
     have hne:d' ≠ t:=fun e => by
      have:=(hok d' rfl).2
      rw [e] at this
      rw [show (Frm.fix ⟨n,fix,hd,ki,kw,kb,kh,D⟩ t) = fix t from rfl,ht] at this
      cases this
     rwa [N6 hne] at this
 · cases e with
   | pan t j n => exact g1
   | norm => exact absurd g1.1 (by intro h; cases h)
   | ret => exact absurd g1.1 (by intro h; cases h)
   | out id => exact absurd g1.1 (by intro h; cases h)
theorem b5L (hok:AllOk P cx) {n κ:Nat} {c:Code} {fix:Nat → Option Value} {D:List Deferred} (hb:o5 [] n c = true) (hh:Hints P cx n H c) {d:(cx.bk κ).ins.ct.denote}
  {y:(H0 (cx.bk κ).exits).denote} (h:a7W cx H κ (.tail c) d = some y) (hf:∀ t v,fix t = some v → o5 [t] n c = true) (h1:∀ t v,fix t = some v → a.tmps.getD t undef = v) (h2:a.tmps.size = n) (h3:a.defers = D) (hg:cx.gp w Φ)
  (hi:InstR w Φ (cx.bk κ).ins (l8 (cx.bk κ).ins.cts d) (a0Q a (cx.bk κ).slots) γ):c.wp P (a7s cx κ n fix D w Φ γ (l8 (cx.bk κ).ins.cts d) y) a w:=by
 haveI:=GlobR.enter hok.gpm hg hi
 have hr0:=a2V (a:=a) (slots:=(cx.bk κ).slots) (fix:=fix) hi h2 h1 h3
 refine D8 (N:=⟨n,fix,fun _ _ => False,D6 (cx.bk κ).ins,w,γ,(cx.bk κ).ins.heap (l8 (cx.bk κ).ins.cts d),D⟩) hok (fun _ _ h => h) c hb hf hh b2J hr0 (fun e s' a' w' Φ' β' hr' h' => a2M hr' h') h
theorem b5e (hok:AllOk P cx) {n κ m id:Nat} {c:Code} {fix:Nat → Option Value} {D:List Deferred} (hb:o5 [] n c = true) (hh:Hints P cx n H c)
  (ih:b2C cx n κ c (fun Q a w => Code.rounds P c (Exit.inBlock id Q) m a w))
  (halt:∀ κ2,H.al κ = some κ2 → b2C cx n κ2 c (fun Q a w => Code.rounds P c (Exit.inBlock id Q) m a w) ∧ ∀ t ∈ (cx.bk κ2).keep,o5 [t] n c = true) {d:(cx.bk κ).ins.ct.denote}
  {y:(H0 (cx.bk κ).exits).denote} (h:a7W cx H κ (.loop id c) d = some y) (hf:∀ t v,fix t = some v → o5 [t] n c = true) (h1:∀ t v,fix t = some v → a.tmps.getD t undef = v) (h2:a.tmps.size = n) (h3:a.defers = D) (hg:cx.gp w Φ)
  (hi:InstR w Φ (cx.bk κ).ins (l8 (cx.bk κ).ins.cts d) (a0Q a (cx.bk κ).slots) γ):Code.rounds P c (Exit.inBlock id (a7s cx κ n fix D w Φ γ (l8 (cx.bk κ).ins.cts d) y)) (m + 1) a w:=by
 haveI:=GlobR.enter hok.gpm hg hi
 have hr0:=a2V (a:=a) (slots:=(cx.bk κ).slots) (fix:=fix) hi h2 h1 h3
 rw [rounds_succ]
 refine D8 (N:=⟨n,fix,fun _ _ => False,D6 (cx.bk κ).ins,w,γ,(cx.bk κ).ins.heap (l8 (cx.bk κ).ins.cts d),D⟩) hok (fun _ _ h => h) c hb hf hh (fun ch a dd v w hd h => b2J (y:=y) ch a dd v w hd h) hr0 (fun e s' a' w' Φ' β' hr' h' => ?_) h
 cases e with
 | ret => exact a2M (e:=.ret) hr' h'
 | pan t j n => exact a2M (e:=.pan t j n) hr' h'
 | out id' =>
   show (if id' = id then a7s cx κ n fix D w Φ γ _ y .normal a' w' else a7s cx κ n fix D w Φ γ _ y (.exit id') a' w')
   simp only at h'
   cases hbq:Nat.beq id' id with
   | true => rw [hbq] at h'; rw [if_pos (Nat.eq_of_beq_eq_true hbq)]; exact a2M (e:=.norm) hr' h'
   | false => rw [hbq] at h'; rw [if_neg (fun e => by rw [e,Nat.beq_refl] at hbq; cases hbq)]; exact a2M (e:=.out id') hr' h'
 | norm =>
   simp only at h'
   split at h'
   case h_2 => cases h'
   rename_i vs hvs
   split at h'
   case h_2 =>
    split at h'
    case h_2 => cases h'
    rename_i κ2 hκ2
    obtain ⟨hrun,hkeep⟩:=halt κ2 hκ2
    show Code.rounds P c (Exit.inBlock id (a7s cx κ n fix D w Φ γ _ y)) m a' w'
    refine a4m (N:=⟨n,fix,fun _ _ => False,D6 (cx.bk κ).ins,w,γ,(cx.bk κ).ins.heap (l8 (cx.bk κ).ins.cts d),D⟩) (run:=fun Q a w => Code.rounds P c (Exit.inBlock id Q) m a w) (fun {Q Q'} hq a w g => a2A (fun e a w g => ?_) m g) hrun hkeep hf hr' (fun e s2 a2 w2 Φ2 β2 hr2 hk2 => a2M hr2 hk2) h'
    cases e with
    | exit id' =>
      simp only [Exit.inBlock] at g ⊢
      split at g
      · rename_i he; rw [if_pos he]; exact hq _ _ _ g
      · rename_i he; rw [if_neg he]; exact hq _ _ _ g
    | _ => exact hq _ _ _ g
   rename_i d' ρ s1 hpk
   obtain ⟨Φ2,β2,hP⟩:=I5 hr' (R1 hr' hvs) hpk
   have hpost:=a2j (N:=⟨n,fix,fun _ _ => False,D6 (cx.bk κ).ins,w,γ,(cx.bk κ).ins.heap (l8 (cx.bk κ).ins.cts d),D⟩) (w:=w) (γ:=γ) (T:=(cx.bk κ).ins) (ds:=l8 (cx.bk κ).ins.cts d) rfl rfl rfl rfl hP
   show Code.rounds P c (Exit.inBlock id (a7s cx κ n fix D w Φ γ _ y)) m a' w'
   have:=ih d' y h' w' Φ2 a' _ fix D hf hr'.fix hr'.size hr'.defers (GlobR.get this hP.rel) hP.inst
   refine a2A (fun e a w2 g => ?_) m this
   have tr:∀ {ex a w2},a7s cx κ n fix D w' Φ2 (fun k => (ρ.at k).bind β2) (l8 (cx.bk κ).ins.cts d') y ex a w2 → a7s cx κ n fix D w Φ γ (l8 (cx.bk κ).ins.cts d) y ex a w2 :=
    fun ⟨k1,k2,k3,Φ3,γ3,k4⟩ => ⟨k1,k2,k3,Φ3,γ3,ExR.mono (fun e l T ds ⟨vs,m1,m2,m3⟩ => ⟨vs,m1,m2,hpost.trans m3⟩) k4⟩
   cases e with
   | exit id' =>
     simp only [Exit.inBlock] at g ⊢
     split at g
     · rename_i he; rw [if_pos he]; exact tr g
     · rename_i he; rw [if_neg he]; exact tr g
   | _ => exact tr g
end
theorem a8x {α:Type}:∀ {l:List α} {o:α},b5c l = some o → l = W1 l ++ [o]
 | [],o,h => by cases h
 | [x],o,h => by cases h; rfl
 | x :: y :: r,o,h => by
   have:=a8x (l:=y :: r) h
   rw [W1,List.cons_append,← this]
structure OkV (X:DefX) (V:Nat → Option Value) (d0:Deferred):Prop where
 t:∃ us vs,V X.t = some (.func (.func X.f) us vs) ∧ d0 = { target:=.fn (.func X.f) vs,args:=us }
 dom:∀ t v,V t = some v → t ∈ X.t :: X.rs
 rs:∀ t ∈ X.rs,∃ v,V t = some v
def Frm.b2P (N:Frm) (V:Nat → Option Value) (d0:Deferred):Frm:={ N with fix:=V,dfs:=[d0] }
section
variable {P:Program} {R:Type} {w0:World} {Φ0 own0:Nat → Prop} {N:Frm} {w w' w2:World} {Φ Φ' Φ2:Nat → Prop} {β γ γ' γ2:Loc} {s s':St} {a:Act} {hp:List (Nat × SObj)}
variable {cx:Cx} {H:Hn}
theorem Rel.d9g (h:Rel w0 Φ0 own0 N w Φ β s a) {V:Nat → Option Value} (d0:Deferred) (hV:∀ t v,V t = some v → a.tmps.getD t undef = v):Rel w0 Φ0 own0 (N.b2P V d0) w Φ β s { tmps:=a.tmps,defers:=[d0] } :=
 ⟨h.env,h.hp,h.own,h.same,h.fri,h.fro,h.size,hV,rfl,h.hold,h.keep,h.rown⟩
theorem a5x [hG:GlobR cx.gp w0 Φ0 own0] (hok:AllOk P cx) (hno:∀ id b,¬ N.held id b) (hfix:N.fix = fun _ => none) (hdfs:N.dfs = []) (X:DefX):∀ (c:Code) {k kd:Ex → St → Option R} {r:R} {Q Q1:Exit → Act → World → Prop} {Q2:(Nat → Option Value) → Deferred → Exit → Act → World → Prop} {w:World} {Φ:Nat → Prop} {β:Loc} {s:St} {a:Act},
  o5 [] N.n c = true → Hints P cx N.n H c → b6P N Q1 → (∀ e a w,Q1 e a w → Q e a w) → (∀ V d,OkV X V d → b6P (N.b2P V d) (Q2 V d)) → (∀ V d,OkV X V d → ∀ e a w,Q2 V d e a w → Q e a w) →
  Rel w0 Φ0 own0 N w Φ β s a → (∀ e s' a' w' Φ' β',Rel w0 Φ0 own0 N w' Φ' β' s' a' → k e s' = some r → Q1 e.Z4 a' w') →
  (∀ V d,OkV X V d → ∀ e s' a' w' Φ' β',Rel w0 Φ0 own0 (N.b2P V d) w' Φ' β' s' a' → kd e s' = some r → Q2 V d e.Z4 a' w') →
  evD cx H N.n X c s k kd = some r → c.wp P Q a w
 | .region id ops false,k,kd,r,Q,Q1,Q2,w,Φ,β,s,a,hb,hh,hP1,hQ1,hP2,hQ2,hr,hk,hkd,h => by
   simp only [evD] at h
   split at h
   case h_2 => cases h
   rename_i o ho
   split at h
   case h_2 => cases h
   rename_i c hop hg hdst
   split at h
   case h_2 => cases h
   rename_i t hcal hargs
   have ht:=Nat.eq_of_beq_eq_true (e8 h).1
   have h:=(e8 h).2
   rw [ht] at hcal
   clear ht
   have hl:=a8x ho
   obtain ⟨m,hm⟩:∃ m,m = (W1 ops.toList).length:=⟨_,rfl⟩
   have hsz:ops.size = m + 1:=by rw [← Array.length_toList,hl,hm]; simp
   have hom:ops[m]? = some o:=by rw [← Array.getElem?_toList,hl,hm]; simp
   refine wp_region ?_
   rw [hsz,List.range_succ,List.range_eq_range']
   rw [hm]
   refine N4 (N:=N) hok [_] (Q:=Q) (ops:=ops) (fun o ho d hd => by
    have:=List.all_eq_true.1 hb o ho
    simp only [hd,and_eq_true] at this
    exact ⟨by rw [← Nat.blt_eq]; exact this.1,by rw [hfix]⟩) (fun s' a' w' Φ' β' hr' h' => ?_) (fun t j n s' a' w' Φ' β' hr' h' => hQ1 _ _ _ (hk (.pan t j n) s' a' w' Φ' β' hr' h')) _ 0 (fun j x hx => by
     rw [Nat.zero_add,← Array.getElem?_toList,hl]
     rw [List.getElem?_append_left (List.getElem?_eq_some_iff.1 hx).1]; exact hx) hr h
   rw [← hm]
   have hw:Region.wanted o (yielded ops a'.tmps) = true:=by simp [Region.wanted,hg]
   simp only [wpOps,hom]
   rw [if_pos hw]
   refine .inl ?_
   split at h'
   case h_2 => cases h'
   rename_i f xs ys hf
   have hff:=Nat.eq_of_beq_eq_true (e8 h').1
   have h':=(e8 h').2
   rw [hff] at hf
   obtain ⟨us,vs,hv,_,_⟩:=hr'.env _ _ hf
   have hV:OkV X (fun t => if t ∈ X.t :: X.rs then some (a'.tmps.getD t undef) else none) { target:=.fn (.func X.f) vs,args:=us } :=
    ⟨⟨us,vs,by simp [hv],rfl⟩,(fun t v ht => by
     by_cases g:t ∈ X.t :: X.rs
     · exact g
     · rw [if_neg g] at ht; cases ht),fun t ht => ⟨_,if_pos (List.mem_cons_of_mem _ ht)⟩⟩
   have hrel:=hr'.d9g (V:=fun t => if t ∈ X.t :: X.rs then some (a'.tmps.getD t undef) else none) { target:=.fn (.func X.f) vs,args:=us } (fun t v ht => by
    split at ht
    · cases ht; rfl
    · cases ht)
   have hargs':c.args = #[]:=by rw [← Array.toList_eq_nil_iff]; exact hargs
   have he:a'.eval (.tmp X.t) = .func (.func X.f) us vs:=hv
   have hrun:(execOp a'.eval o).run P w' = .ok (.defer { target:=.fn (.func X.f) vs,args:=us }) w':=by
    simp [execOp,hop,resolve,hcal,he,hargs',Deferred.ofValue]
   unfold Oper.wp
   rw [hrun,Oper.upon_defer,hr'.defers,hdfs,hdst]
   exact hQ2 _ _ hV _ _ _ (hkd _ _ hV .norm s' _ w' Φ' β' hrel h')
 | .seq x y,k,kd,r,Q,Q1,Q2,w,Φ,β,s,a,hb,hh,hP1,hQ1,hP2,hQ2,hr,hk,hkd,h => by
   simp only [o5,and_eq_true] at hb
   simp only [evD] at h
   split at h
   · obtain ⟨hbd,h⟩:=e8 h
     refine wp_seq (a5x hok hno hfix hdfs X x (Q1:=Exit.then (fun _ _ => False) Q1) (Q2:=fun V d => Exit.then (y.wp P Q) (Q2 V d)) hb.1 hh.1 (fun c a d v w hd h => hP1 c a d v w hd h) (fun e a w g => ?_) (fun V d hV c a d' v w hd h => hP2 V d hV c a d' v w hd h) (fun V d hV e a w g => ?_) hr (fun e s' a' w' Φ' β' hr' h' => ?_) (fun V d hV e s' a' w' Φ' β' hr' h' => ?_) h)
     · cases e <;> first | exact g.elim | exact hQ1 _ _ _ g
     · cases e <;> first | exact g | exact hQ2 V d hV _ _ _ g
     · cases e with
       | norm => cases h'
       | out id => exact hk (.out id) s' a' w' Φ' β' hr' h'
       | ret => exact hk .ret s' a' w' Φ' β' hr' h'
       | pan t j n => exact hk (.pan t j n) s' a' w' Φ' β' hr' h'
     · cases e with
       | out id => exact hkd V d hV (.out id) s' a' w' Φ' β' hr' h'
       | ret => exact hkd V d hV .ret s' a' w' Φ' β' hr' h'
       | pan t j n => exact hkd V d hV (.pan t j n) s' a' w' Φ' β' hr' h'
       | norm =>
         have hh2:=hh.2
         show y.wp P Q a' w'
         have hfx:c5T (N.b2P V d) y:=fun t v hv => O8 (hV.dom t v hv) y hbd
         refine wp_mono (Q:=Q2 V d) ?_ (hQ2 V d hV)
         simp only at h'
         split at h'
         · rename_i κ hκ
           rw [hκ] at hh2
           exact X6 (N:=N.b2P V d) hh2.1 hh2.2 hfx hr' (fun e s' a' w' Φ' β' hr' h' => hkd V d hV e s' a' w' Φ' β' hr' h') h'
         · rename_i hκ
           rw [hκ] at hh2
           exact D8 (N:=N.b2P V d) hok hno y hb.2 hfx hh2 (hP2 V d hV) hr' (fun e s' a' w' Φ' β' hr' h' => hkd V d hV e s' a' w' Φ' β' hr' h') h'
   · split at h
     · cases h
     · rename_i hκ
       have hh2:=hh.2
       rw [hκ] at hh2
       refine wp_seq (wp_mono (D8 (N:=N) (Q:=Exit.then (y.wp P Q) Q1) hok hno x hb.1 (fun t v hv => by rw [hfix] at hv; cases hv) hh.1 (fun c a d v w hd h => hP1 c a d v w hd h) hr (fun e s' a' w' Φ' β' hr' h' => ?_) h) (fun e a w g => ?_))
       · cases e with
         | norm => exact a5x hok hno hfix hdfs X y hb.2 hh2 hP1 hQ1 hP2 hQ2 hr' hk hkd h'
         | out id => exact hk (.out id) s' a' w' Φ' β' hr' h'
         | ret => exact hk .ret s' a' w' Φ' β' hr' h'
         | pan t j n => exact hk (.pan t j n) s' a' w' Φ' β' hr' h'
       · cases e <;> first | exact g | exact hQ1 _ _ _ g
 | .region id ops true,k,kd,r,Q,Q1,Q2,w,Φ,β,s,a,_,_,_,_,_,_,_,_,_,h => by simp [evD] at h
 | .skip,k,kd,r,Q,Q1,Q2,w,Φ,β,s,a,_,_,_,_,_,_,_,_,_,h => by simp [evD] at h
 | .cond _ _ _,k,kd,r,Q,Q1,Q2,w,Φ,β,s,a,_,_,_,_,_,_,_,_,_,h => by simp [evD] at h
 | .block _ _,k,kd,r,Q,Q1,Q2,w,Φ,β,s,a,_,_,_,_,_,_,_,_,_,h => by simp [evD] at h
 | .loop _,k,kd,r,Q,Q1,Q2,w,Φ,β,s,a,_,_,_,_,_,_,_,_,_,h => by simp [evD] at h
 | .exit _,k,kd,r,Q,Q1,Q2,w,Φ,β,s,a,_,_,_,_,_,_,_,_,_,h => by simp [evD] at h
 | .ret,k,kd,r,Q,Q1,Q2,w,Φ,β,s,a,_,_,_,_,_,_,_,_,_,h => by simp [evD] at h
 | .rangeFunc _ _ _ _,k,kd,r,Q,Q1,Q2,w,Φ,β,s,a,_,_,_,_,_,_,_,_,_,h => by simp [evD] at h
 | .scope _,k,kd,r,Q,Q1,Q2,w,Φ,β,s,a,_,_,_,_,_,_,_,_,_,h => by simp [evD] at h
 | .label _,k,kd,r,Q,Q1,Q2,w,Φ,β,s,a,_,_,_,_,_,_,_,_,_,h => by simp [evD] at h
 | .goto _,k,kd,r,Q,Q1,Q2,w,Φ,β,s,a,_,_,_,_,_,_,_,_,_,h => by simp [evD] at h
 | .refuse _,k,kd,r,Q,Q1,Q2,w,Φ,β,s,a,_,_,_,_,_,_,_,_,_,h => by simp [evD] at h
theorem M0 {ops:Array Oper} {Q:Exit → Act → List Frame → World → Prop} {cs:List Frame} (hlo:¬ LetsOut (fun e a w => Q e a cs w)):∀ (l:List Nat) {a:Act} {w:World},wpOps P ops (fun e a w => Q e a cs w) l a w → wpOpsS P ops Q l a cs w
 | [],a,w,h => h
 | i :: l,a,w,h => by
   simp only [wpOps] at h
   simp only [wpOpsS]
   split
   · rename_i ho
     rw [ho] at h
     exact M0 hlo l h
   · rename_i o ho
     rw [ho] at h
     simp only at h
     split
     · rename_i hw
       rw [if_pos hw] at h
       have h:=h.resolve_right fun g => hlo g.2
       unfold Oper.wp at h
       split
       · rename_i w' hrun
         rw [hrun] at h
         exact h.elim
       · generalize (execOp a.eval o).run P w = r at h
         revert h
         unfold Oper.upon
         split
         · exact fun h => M0 hlo l h
         · exact fun h => M0 hlo l h
         · exact fun h => M0 hlo l h
         · intro h
           refine Calls.mono h fun e w' g => ?_
           cases e with
           | returned v => exact M0 hlo l g
           | panicked ch => exact g
           | outgrown => exact g
         · intro h
           exact Rows.mono h fun v w' g => M0 hlo l g
         · exact fun h => h
         · exact fun h => h
     · rename_i hw
       rw [if_neg hw] at h
       exact M0 hlo l h
theorem a0j {env:List (Nat × SVal)}:∀ {l:List Nat} {t:Nat} {v:SVal},look (Y3 env l) t = some v → t ∈ l ∧ look env t = some v ∧ ∃ id off,v = .one (.ptr id off)
 | [],t,v,h => by cases h
 | x :: r,t,v,h => by
   unfold Y3 at h
   split at h
   · rename_i id off he
     rw [g9] at h
     split at h
     · rename_i e
       cases h
       subst e
       exact ⟨List.mem_cons_self,he,id,off,rfl⟩
     · obtain ⟨h1,h2⟩:=a0j h
       exact ⟨List.mem_cons_of_mem _ h1,h2⟩
   · obtain ⟨h1,h2⟩:=a0j h
     exact ⟨List.mem_cons_of_mem _ h1,h2⟩
theorem b1F [hG:GlobR cx.gp w0 Φ0 own0] (hok:AllOk P cx) (hno:∀ id b,¬ N.held id b) {X:DefX} {V:Nat → Option Value} {d0:Deferred} (hV:OkV X V d0) (hr:Rel w0 Φ0 own0 (N.b2P V d0) w Φ β s a)
  {fn fn' : Func} (hf' : P.funcs[X.f]? = some fn') (hnm : (fn'.name == "runtime.NumGoroutine") = false) (hb' : fn'.body = some X.c) (hn : fn'.ntmps = X.n) (hres : fn'.results.toList = []) (hh : Hints P cx X.n X.H X.c)
  {v:SVal} {u:FrameMode} (hu:(∃ t j n,v = .one (.ifi t j n) ∧ u = .panicking [{ v:=.iface t (.int j n),recovered:=false }]) ∨ (v = .one .nili ∧ u = .returning))
  {k:St → Option R} {r:R} {Rr:Ending → World → Prop} (hRo:∀ w,¬ Rr .outgrown w) (tmps:Array Value) (ht1:∀ t v,V t = some v → tmps.getD t undef = v) (ht2:tmps.size = N.n)
  (hk:∀ s' w' Φ' β',Rel w0 Φ0 own0 { N with fix:=fun _ => none,dfs:=[] } w' Φ' β' s' { tmps:=tmps,defers:=[] } → k s' = some r → ∃ v,(results fn tmps).run P w' = .ok v w' ∧ Rr (.returned v) w')
  (h:a0i cx X v s k = some r):Leaves P fn tmps Rr [d0] u w:=by
 unfold a0i at h
 split at h
 case h_2 => cases h
 rename_i f xs ys hf
 have hc:=(e8 h).1
 have h:=(e8 h).2
 simp only [and_eq_true] at hc
 obtain ⟨hff,hlen,hbd⟩:=hc
 rw [Nat.eq_of_beq_eq_true hff] at hf
 clear hff
 have hlen:=Nat.le_of_ble_eq_true hlen
 obtain ⟨us,vs,hv1,hd0⟩:=hV.t
 obtain ⟨us',vs',e1,hxs,hys⟩:=hr.env _ _ hf
 have hfx:a.tmps.getD X.t undef = .func (.func X.f) us vs:=hr.fix _ _ hv1
 rw [hfx] at e1
 cases e1
 subst hd0
 have hall:E9 w Φ β s.heap (J8 xs ++ J8 ys) (us.toList ++ vs.toList):=a4b (J0 hxs) (J0 hys)
 have hsz:us.size + vs.size = xs.length + ys.length:=by
  have h1:=a4c hall
  have h2:∀ l:List (Option Nat),(J8 l).length = l.length:=by
   intro l
   induction l with
   | nil => rfl
   | cons x l ih => simp [J8,ih]
  simpa [h2] using h1
 have hur:u ≠ .run:=by rcases hu with ⟨_,_,_,_,rfl⟩ | ⟨_,rfl⟩ <;> simp
 have hbn:fn'.body.isNone = false:=by rw [hb']; rfl
 refine leaves_cons (f:=X.f) (args:=us ++ vs) hur (by
  simp only [invoke,callFunc,Sem.run_bind,run_program,Result.andThen_ok,hf',hnm,hbn,Bool.false_eq_true,if_false]
  rfl) ?_
 refine callsD_of_wpS hf' hb' fun c₀ cs hu0 => ?_
 obtain ⟨a1,ha1⟩:∃ a1:Act,a1 = { tmps:=us ++ vs ++ Array.replicate (fn'.ntmps - (us ++ vs).size) undef,defers:=[] }:=⟨_,rfl⟩
 rw [← ha1]
 have hsz1:a1.tmps.size = X.n:=by rw [ha1]; simp; omega
 have hget:((List.range (xs.length + ys.length)).map fun t => a1.tmps.getD t undef) = us.toList ++ vs.toList:=by
  apply List.ext_getElem?
  intro i
  simp only [List.getElem?_map]
  by_cases hi:i < xs.length + ys.length
  · rw [List.getElem?_range hi]
    simp only [Option.map_some]
    have hi2:i < (us ++ vs).size:=by simp; omega
    have hlt:i < (us.toList ++ vs.toList).length:=by simp; omega
    have hv:(us.toList ++ vs.toList)[i]? = some (us.toList ++ vs.toList)[i]:=List.getElem?_eq_getElem hlt
    rw [hv]
    congr 1
    have:a1.tmps[i]? = some (us ++ vs)[i]:=by
     rw [ha1]; simp only
     rw [Array.getElem?_append_left hi2,Array.getElem?_eq_getElem hi2]
    rw [Array.getD_eq_getD_getElem?,this]
    simp [← Array.getElem_toList]
  · rw [List.getElem?_eq_none (by simpa using hi),List.getElem?_eq_none (by simp; omega)]; rfl
 let N':Frm:=⟨X.n,fun _ => none,fun _ _ => False,fun _ => True,w,β,s.heap,[]⟩
 have hr1:Rel w0 Φ0 own0 N' w Φ β { s with env:=(List.range (xs.length + ys.length)).zip (J8 xs ++ J8 ys) } a1:={
  env:=a4A (vs:=J8 xs ++ J8 ys) (by rw [hget]; exact hall)
  hp:=⟨hr.hp.ob,hr.hp.lt,hr.hp.hlt,hr.hp.inj,hr.hp.blt,hr.hp.flt,hr.hp.rin,hr.hp.rinj⟩
  own:=fun id o b p h1 h2 h3 => by
   rcases hr.own id o b p h1 h2 h3 with g | g | ⟨p,g⟩
   · exact .inl g
   · exact .inr (.inl g)
   · exact absurd g (hno _ _)
  same:=hr.same
  fri:=hr.fri
  fro:=hr.fro
  size:=hsz1
  fix:=fun _ _ h => by cases h
  defers:=by rw [ha1]
  hold:=fun _ _ h => h.elim
  keep:=fun id _ => .refl ..
  rown:=hr.rown }
 unfold b2X at h
 split at h
 case h_2 => cases h
 rename_i id ops rest hcode
 split at h
 case h_2 => cases h
 rename_i o ops' hops
 split at h
 case h_2 => cases h
 rename_i c hop hg
 split at h
 case h_2 => cases h
 rename_i hcal
 rw [hcode] at hbd hh ⊢
 simp only [o5,and_eq_true] at hbd
 obtain ⟨u',val,hrec,hset,hval⟩:∃ u' val,(match recoverD (c₀ :: cs) with
   | some (v,cs') => (v,cs')
   | none => (.nilIface,c₀ :: cs)) = (val,({ c₀ with mode:=u' }:Frame) :: cs) ∧ settle u' = .returning ∧ SVR w Φ β s.heap v val:=by
  rcases hu with ⟨t,j,n,rfl,rfl⟩ | ⟨rfl,rfl⟩
  · exact ⟨.panicking [{ v:=.iface t (.int j n),recovered:=true }],_,by simp only [recoverD,hu0],rfl,rfl⟩
  · exact ⟨.returning,.nilIface,by
     simp only [recoverD,hu0]
     cases c₀; simp only at hu0; subst hu0; rfl,rfl,rfl⟩
 have hoi:ops[0]? = some o:=by rw [← Array.getElem?_toList,hops]; rfl
 have hosz:ops.size = ops'.length + 1:=by rw [← Array.length_toList,hops]; rfl
 have hNo:∀ o ∈ ops.toList,∀ d,o.dst = some d → N'.ok d:=fun o ho d hd => by
  have:=List.all_eq_true.1 hbd.1 o ho
  simp only [hd,and_eq_true] at this
  exact ⟨by rw [← Nat.blt_eq]; exact this.1,rfl⟩
 obtain ⟨Qs,hQs⟩:∃ Qs:Exit → Act → List Frame → World → Prop,Qs = fun e a cs' w => e ≠ .outgrown ∧ bodyPostS P fn' c₀ cs (fun
  | .returned _,u',w' => Leaves P fn tmps Rr [] (settle u') w'
  | .panicked chain,u',w' => Leaves P fn tmps Rr [] (raised u' chain) w'
  | .outgrown,_,w' => Rr .outgrown w') e a cs' w:=⟨_,rfl⟩
 have hmono:∀ (c:Code) (Q Q':Exit → Act → List Frame → World → Prop) (a:Act) (cs:List Frame) (w:World),(∀ e a cs w,Q e a cs w → Q' e a cs w) → c.wpS P Q a cs w → c.wpS P Q' a cs w :=
  fun c Q Q' a cs w hq h b k h1 h2 => let ⟨e,a',cs',w',q,r⟩:=h b k h1 h2; ⟨e,a',cs',w',hq _ _ _ _ q,r⟩
 refine hmono _ Qs _ _ _ _ (fun e a cs w g => by rw [hQs] at g; exact g.2) ?_
 refine wpS_seq (wpS_region ?_)
 rw [hosz,List.range_eq_range',List.range'_succ]
 have hw:Region.wanted o (yielded ops a1.tmps) = true:=by simp [Region.wanted,hg]
 simp only [wpOpsS,hoi]
 rw [if_pos hw]
 have hrun:(execOp a1.eval o).run P w = .ok .recover w:=by
  simp [execOp,hop,resolve,hcal,go_sem]
 have hgoal:wpOpsS P ops (Exit.thenS (rest.wpS P Qs) Qs) (List.range' 1 ops'.length) (a1.put o.dst val) (({ c₀ with mode:=u' }:Frame) :: cs) w:=by
  refine M0 (Q:=Exit.thenS (rest.wpS P Qs) Qs) ?_ _ ?_
  · rintro ⟨a2,w2,g⟩
    have g:Qs .outgrown a2 (({ c₀ with mode:=u' }:Frame) :: cs) w2:=g
    rw [hQs] at g
    exact g.1 rfl
  refine a6m (N:=N') hok (Q:=fun e a w => Exit.thenS (rest.wpS P Qs) Qs e a (({ c₀ with mode:=u' }:Frame) :: cs) w) hNo (fun s2 a2 w2 Φ2 β2 hr2 h2 => ?_) (fun _ _ _ _ _ _ _ _ _ g => by cases g) ops' 1 (fun j => by
   rw [← Array.getElem?_toList,hops,Nat.add_comm 1 j]; rfl) (hr1.set hval (hNo o (by rw [hops]; exact List.mem_cons_self))) h
  show rest.wpS P Qs a2 _ w2
  refine wpS_of_wp ?_
  split at h2
  · cases h2
  rename_i hfr
  have hh2:=hh.2
  rw [hfr] at hh2
  refine D8 (N:=N') hok (fun _ _ h => h) rest hbd.2 (fun t v h => by cases h) hh2 (fun ch a d v w hd g => ?_) hr2 (fun e s3 a3 w3 Φ3 β3 hr3 h3 => ?_) h2
  · rw [hQs] at g ⊢
    obtain ⟨_,g1,g2⟩:=g
    exact ⟨by simp,by rwa [P5] at g1,g2⟩
  have fin:k { s3 with env:=Y3 s.env X.rs } = some r → Qs .ret a3 (({ c₀ with mode:=u' }:Frame) :: cs) w3:=by
   intro h3
   rw [hQs]
   refine ⟨by simp,hr3.defers,u',rfl,_,a2E fn' a3.tmps (us:=[]) (by rw [hres]; rfl),?_⟩
   show Leaves P fn tmps Rr [] (settle u') w3
   rw [hset]
   refine hk _ w3 Φ3 β3 ?_ h3
   exact {
    env:=fun t v hv => by
     obtain ⟨g1,g2,id,off,rfl⟩:=a0j hv
     obtain ⟨b,k1,k2⟩:=hr.env t _ g2
     obtain ⟨v',hv'⟩:=hV.rs t g1
     refine ⟨b,(hr3.keep id trivial).loc _ k1,?_⟩
     rw [ht1 t v' hv',← hr.fix t v' hv']; exact k2
    hp:=⟨hr3.hp.ob,hr3.hp.lt,hr3.hp.hlt,hr3.hp.inj,hr3.hp.blt,hr3.hp.flt,hr3.hp.rin,hr3.hp.rinj⟩
    own:=fun id o b p h1 h2 h3 => by
     rcases hr3.own id o b p h1 h2 h3 with g | g | ⟨p,g⟩
     · exact .inl g
     · exact .inr (.inl g)
     · exact g.elim
    same:=hr3.same
    fri:=hr3.fri
    fro:=hr3.fro
    size:=ht2
    fix:=fun _ _ h => by cases h
    defers:=rfl
    hold:=fun id x hx => absurd hx (hno id x)
    keep:=fun id hid => (hr.keep id hid).trans (hr3.keep id trivial)
    rown:=hr3.rown }
  cases e with
  | norm => have:=fin h3; rw [hQs] at this ⊢; exact ⟨(fun h => by cases h),this.2⟩
  | ret => exact fin h3
  | out id => cases h3
  | pan t j n => cases h3
 rw [hrun]
 simp only
 split
 · rename_i v2 cs2 hrd
   rw [hrd] at hrec
   cases hrec
   exact hgoal
 · rename_i hrd
   rw [hrd] at hrec
   simp only [Prod.mk.injEq,List.cons.injEq,and_true] at hrec
   obtain ⟨rfl,hc⟩:=hrec
   rw [← hc] at hgoal
   exact hgoal
theorem b4Q {φ:Nat} {fn:Func} {d:(cx.kin φ).ct.denote} {vs:List Value} {a0:Act} (hi:InstR w Φ (cx.kin φ) (l8 (cx.kin φ).cts d) vs γ) (hlen:(cx.kin φ).slots.length ≤ fn.ntmps)
  (ha0:a0 = { tmps:=vs.toArray ++ Array.replicate (fn.ntmps - vs.toArray.size) undef,defers:=[] }) :
  Rel w Φ (a0s w γ ((cx.kin φ).heap (l8 (cx.kin φ).cts d))) ⟨fn.ntmps,fun _ => none,fun _ _ => False,D6 (cx.kin φ),w,γ,(cx.kin φ).heap (l8 (cx.kin φ).cts d),[]⟩ w Φ γ (b7I (List.range (cx.kin φ).slots.length) (cx.kin φ) (l8 (cx.kin φ).cts d)) a0:=by
 have hvl:=b0f hi
 have hsz:a0.tmps.size = fn.ntmps:=by rw [ha0]; simp; omega
 have hget:∀ t v,vs[t]? = some v → a0.tmps.getD t undef = v:=by
  intro t v ht
  have hlt:=(List.getElem?_eq_some_iff.1 ht).1
  have:a0.tmps[t]? = some v:=by
   rw [ha0]
   simp only
   rw [Array.getElem?_append_left (by simpa using hlt)]
   simpa using ht
  rw [Array.getD_eq_getD_getElem?,this]; rfl
 have hslots:((List.range (cx.kin φ).slots.length).map fun t => a0.tmps.getD t undef) = vs:=by
  apply List.ext_getElem?
  intro i
  simp only [List.getElem?_map]
  by_cases hi:i < (cx.kin φ).slots.length
  · rw [List.getElem?_range hi]
    have hv:vs[i]? = some vs[i]:=List.getElem?_eq_getElem (by omega)
    rw [hv]; simp only [Option.map_some]; rw [hget i _ hv]
  · rw [List.getElem?_eq_none (by simpa using hi),List.getElem?_eq_none (by omega)]; rfl
 exact a2V (a:=a0) (slots:=List.range (cx.kin φ).slots.length) (fix:=fun _ => none) (by rw [hslots]; exact hi) hsz (fun t v h => by cases h) (by rw [ha0])
theorem a4J {φ n:Nat} {d:(cx.kin φ).ct.denote} {bb:Bool} {a':Act} {Φ':Nat → Prop} {β':Loc} {s':St} {us:List Value} {rv:List SVal}
  (hr':Rel w Φ (a0s w γ ((cx.kin φ).heap (l8 (cx.kin φ).cts d))) ⟨n,fun _ => none,fun _ _ => False,D6 (cx.kin φ),w,γ,(cx.kin φ).heap (l8 (cx.kin φ).cts d),[]⟩ w' Φ' β' s' a') (g2:E9 w' Φ' β' s'.heap rv us) :
  ∀ {l:List Tm} {y:(H4 l).denote},J3 bb (s4 0 (cx.kin φ).objs) l rv s' = some y → ∃ Φ2 γ2,O9 (fun T' ds' => T'.O6 = bb ∧ InstR w' Φ2 T' ds' us γ2 ∧ PostR w Φ γ (cx.kin φ) (l8 (cx.kin φ).cts d) w' Φ2 γ2 T' ds') l y:=by
 intro l
 induction l with
 | nil => intro y h; cases h
 | cons T' l ih =>
   intro y h
   have one:∀ d' ρ s1,b1a bb (s4 0 (cx.kin φ).objs) T' rv s' = some (d',ρ,s1) → ∃ Φ2 γ2,T'.O6 = bb ∧ InstR w' Φ2 T' (l8 T'.cts d') us γ2 ∧ PostR w Φ γ (cx.kin φ) (l8 (cx.kin φ).cts d) w' Φ2 γ2 T' (l8 T'.cts d'):=by
    intro d' ρ s1 hd
    obtain ⟨hp,hd⟩:=a8P hd
    obtain ⟨Φ2,β2,hP⟩:=I5 hr' g2 hd
    exact ⟨Φ2,_,hp,hP.inst,a2j rfl rfl rfl rfl hP⟩
   cases l with
   | nil =>
     simp only [J3] at h
     split at h
     · rename_i d' ρ s1 hd; cases h; exact one _ _ _ hd
     · cases h
   | cons T2 l =>
     simp only [J3] at h
     split at h
     · rename_i d' ρ s1 hd; cases h; exact one _ _ _ hd
     · split at h
       · rename_i d' hd; cases h; exact ih hd
       · cases h
theorem b5U {K:Tm → List Dyn → Prop} (hK:∀ T ds,¬ K T ds):∀ {l:List Tm} {y:(H4 l).denote},¬ O9 K l y
 | [],_,g => g
 | [T'],y,g => hK _ _ g
 | T' :: b :: r,.inl a,g => hK _ _ g
 | T' :: b :: r,.inr c,g => b5U hK (l:=b :: r) g
theorem b7F (hok:AllOk P cx) {f φ:Nat} {fn fn':Func} {c:Code} {X:DefX} (hfn:P.funcs[f]? = some fn) (hb:fn.body = some c) (hlen:(cx.kin φ).slots.length ≤ fn.ntmps) (hB:o5 [] fn.ntmps c = true)
  (hH : Hints P cx fn.ntmps H c) (hf' : P.funcs[X.f]? = some fn') (hnm : (fn'.name == "runtime.NumGoroutine") = false) (hb' : fn'.body = some X.c) (hn' : fn'.ntmps = X.n) (hres : fn'.results.toList = []) (hh' : Hints P cx X.n X.H X.c) :
  ∀ d y,b0z cx H φ fn.ntmps c fn.results.toList X d = some y → ∀ (w:World) (Φ:Nat → Prop) (vs:List Value) (γ:Loc),cx.gp w Φ → InstR w Φ (cx.kin φ) (l8 (cx.kin φ).cts d) vs γ →
  Calls P f vs.toArray w fun e w' => ∃ Φ' γ' rs,O9 (fun T' ds' => e = T'.ending rs ∧ InstR w' Φ' T' ds' rs γ' ∧ PostR w Φ γ (cx.kin φ) (l8 (cx.kin φ).cts d) w' Φ' γ' T' ds') (cx.kouts φ) y:=by
 intro d y h w Φ vs γ hg hi
 haveI:=GlobR.enter hok.gpm hg hi
 refine calls_of_wp_defers hfn hb ?_
 obtain ⟨a0,ha0⟩:∃ a0:Act,a0 = { tmps:=vs.toArray ++ Array.replicate (fn.ntmps - vs.toArray.size) undef,defers:=[] }:=⟨_,rfl⟩
 rw [← ha0]
 have hr0:=b4Q hi hlen ha0
 unfold b0z at h
 obtain ⟨Rr,hRr⟩:∃ Rr:Ending → World → Prop,Rr = fun e w' => ∃ Φ' γ' rs,O9 (fun T' ds' => e = T'.ending rs ∧ InstR w' Φ' T' ds' rs γ' ∧ PostR w Φ γ (cx.kin φ) (l8 (cx.kin φ).cts d) w' Φ' γ' T' ds') (cx.kouts φ) y:=⟨_,rfl⟩
 rw [← hRr]
 have hRo:∀ w,¬ Rr .outgrown w:=by
  intro w2 g
  rw [hRr] at g
  obtain ⟨_,_,rs,g⟩:=g
  exact b5U (fun T ds ⟨e,_⟩ => by unfold Tm.ending at e; split at e <;> cases e) g
 let N0:Frm:=⟨fn.ntmps,fun _ => none,fun _ _ => False,D6 (cx.kin φ),w,γ,(cx.kin φ).heap (l8 (cx.kin φ).cts d),[]⟩
 have fin:∀ {s':St} {w':World} {Φ':Nat → Prop} {β':Loc} {tmps:Array Value},Rel w Φ (a0s w γ ((cx.kin φ).heap (l8 (cx.kin φ).cts d))) N0 w' Φ' β' s' { tmps:=tmps,defers:=[] } → a3P cx φ fn.results.toList s' = some y → ∃ v,(results fn tmps).run P w' = .ok v w' ∧ Rr (.returned v) w':=by
  intro s' w' Φ' β' tmps hr' h'
  unfold a3P at h'
  split at h'
  case h_2 => cases h'
  rename_i rv hrv
  obtain ⟨us,g1,g2⟩:=a2z hok hr' _ _ hrv
  obtain ⟨Φ2,γ2,h2⟩:=a4J hr' g2 h'
  refine ⟨_,a2E fn _ g1,?_⟩
  rw [hRr]
  exact ⟨Φ2,γ2,us,O9.mono (fun T ds ⟨k1,k2⟩ => ⟨by rw [Tm.ending,k1],k2⟩) h2⟩
 refine a5x (N:=N0) hok (fun _ _ h => h) rfl rfl X c (Q:=bodyPostD P fn Rr)
  (Q1:=fun e a w => match e with
    | .panic ch => a.defers = [] ∧ Rr (.panicked ch) w
    | e => bodyPostD P fn Rr e a w)
  (Q2:=fun V d0 e a w => (∀ t v,V t = some v → a.tmps.getD t undef = v) ∧ a.tmps.size = fn.ntmps ∧ a.defers = [d0] ∧ (match e with
    | .normal => ∀ tmps:Array Value,(∀ t v,V t = some v → tmps.getD t undef = v) → tmps.size = fn.ntmps → Leaves P fn tmps Rr [d0] .returning w
    | .ret => ∀ tmps:Array Value,(∀ t v,V t = some v → tmps.getD t undef = v) → tmps.size = fn.ntmps → Leaves P fn tmps Rr [d0] .returning w
    | .panic ch => ∀ tmps:Array Value,(∀ t v,V t = some v → tmps.getD t undef = v) → tmps.size = fn.ntmps → Leaves P fn tmps Rr [d0] (.panicking ch) w
    | _ => False)) hB hH (fun ch a dd v w' _ g => ⟨by have:=g.1; rwa [P5] at this,g.2⟩) (fun e a w' g => ?_) (fun V d0 hV ch a dd v w' hd g => ?_) (fun V d0 hV e a w' g => ?_) hr0 (fun e s' a' w' Φ' β' hr' h' => ?_) (fun V d0 hV e s' a' w' Φ' β' hr' h' => ?_) h
 · cases e with
   | panic ch =>
     obtain ⟨g1,g2⟩:=g
     show Leaves P fn a.tmps Rr a.defers (.panicking ch) w'
     rw [g1]; exact g2
   | _ => exact g
 · obtain ⟨g1,g2,g3,g4⟩:=g
   refine ⟨fun t u ht => ?_,by rwa [a9o] at g2,by rwa [P5] at g3,g4⟩
   have:=g1 t u ht
   cases dd with
   | none => exact this
   | some d' =>
     have hne:d' ≠ t:=fun e => by
      have:=(hd d' rfl).2
      rw [e] at this
      rw [show (Frm.fix (Frm.b2P N0 V d0) t) = V t from rfl,ht] at this
      cases this
     rwa [N6 hne] at this
 · obtain ⟨g1,g2,g3,g4⟩:=g
   cases e with
   | normal => show Leaves P fn a.tmps Rr a.defers .returning w'; rw [g3]; exact g4 _ g1 g2
   | ret => show Leaves P fn a.tmps Rr a.defers .returning w'; rw [g3]; exact g4 _ g1 g2
   | panic ch => show Leaves P fn a.tmps Rr a.defers (.panicking ch) w'; rw [g3]; exact g4 _ g1 g2
   | exit _ => exact g4.elim
   | goto _ => exact g4.elim
   | outgrown => exact g4.elim
 · have go:a3P cx φ fn.results.toList s' = some y → bodyPostD P fn Rr .ret a' w':=fun h' => by
    show Leaves P fn a'.tmps Rr a'.defers .returning w'
    have hd:a'.defers = []:=hr'.defers
    rw [hd]
    exact fin (tmps:=a'.tmps) (by
     have:({ tmps:=a'.tmps,defers:=[] }:Act) = a':=by rw [← hd]
     rw [this]; exact hr') h'
   cases e with
   | norm => exact go h'
   | ret => exact go h'
   | out id => cases h'
   | pan t j n =>
     obtain ⟨Φ2,γ2,h2⟩:=a4J (us:=[.iface t (.int j n)]) (rv:=[.one (.pan t j n)]) hr' ⟨_,_,rfl,rfl,rfl⟩ h'
     refine ⟨hr'.defers,?_⟩
     rw [hRr]
     exact ⟨Φ2,γ2,[.iface t (.int j n)],O9.mono (fun T ds ⟨k1,k2⟩ => ⟨by rw [Tm.ending,k1]; rfl,k2⟩) h2⟩
 · refine ⟨hr'.fix,hr'.size,hr'.defers,?_⟩
   have go:∀ {v:SVal} {u:FrameMode},((∃ t j n,v = .one (.ifi t j n) ∧ u = .panicking [{ v:=.iface t (.int j n),recovered:=false }]) ∨ (v = .one .nili ∧ u = .returning)) → a0i cx X v s' (a3P cx φ fn.results.toList) = some y →
     ∀ tmps:Array Value,(∀ t v,V t = some v → tmps.getD t undef = v) → tmps.size = fn.ntmps → Leaves P fn tmps Rr [d0] u w':=fun hu h' tmps t1 t2 =>
    b1F (N:=N0) hok (fun _ _ h => h) hV hr' hf' hnm hb' hn' hres hh' hu hRo tmps t1 t2 (fun s2 w2 Φ2 β2 hr2 h2 => fin hr2 h2) h'
   cases e with
   | norm => exact go (.inr ⟨rfl,rfl⟩) h'
   | ret => exact go (.inr ⟨rfl,rfl⟩) h'
   | out id => cases h'
   | pan t j n => exact go (.inl ⟨t,j,n,rfl,rfl⟩) h'
end
variable {R S:Type}
theorem n5 {b:Bool} {x y:Option R} {k:R → Option S}:(bif b then x else y).bind k = bif b then x.bind k else y.bind k:=by cases b <;> rfl
theorem b2K (e:Bool) (td:Option TD) (op:BinOp) (x y:SVal) (k:SVal → Option R):b9Q e td op x y k = (b9Q e td op x y some).bind k:=by
 unfold b9Q
 repeat' split
 all_goals (first | rfl | (simp only [n5,bind_some,Option.bind_none]))
theorem b6J (op:UnOp) (x:SVal) (k:SVal → Option R):unK op x k = (unK op x some).bind k:=by
 unfold unK
 split <;> rfl
theorem a7L {A:Type} (lo hi:Option SVal) (len:Nat) (f:Nat → Nat → Option A) (k:A → Option R):a0h lo hi len (fun a b => (f a b).bind k) = (a0h lo hi len f).bind k:=by
 unfold a0h
 split <;> simp only [n5,Option.bind_none]
theorem a3X {A R:Type} (kk:Nat → Option A) (k:A → Option R):∀ (n i:Nat),a1u n i (fun j => (kk j).bind k) = (a1u n i kk).bind k
 | 0,i => by simp only [a1u,n5,Option.bind_none]
 | n + 1,i => by simp only [a1u,n5,a3X kk k n i]
theorem b4G {A R:Type} (s:St) (id n h:Nat) (kk:Nat → Option A) (k:A → Option R):a5s s id n h (fun j => (kk j).bind k) = (a5s s id n h kk).bind k:=by
 unfold a5s
 split
 · exact a3X kk k _ _
 · rfl
theorem a9q (td:TD) (s:St) (x:SVal) (lo hi:Option SVal) (k:SVal → Option R):a9p td s x lo hi k = (a9p td s x lo hi some).bind k:=by
 unfold a9p
 repeat' split
 all_goals (first | rfl | (simp only [n5,← a7L,bind_some,Option.bind_none]; done) | (simp only [n5,← a7L,Option.bind_none,← b4G,bind_some]))
theorem b0s (tab:Nat → Option TD) (td dd:TD) (b:Bool) (s:St) (v:SVal) (k:SVal → St → Option R):b5Z tab td dd b s v k = (b5Z tab td dd b s v fun r s => some (r,s)).bind fun p => k p.1 p.2:=rfl
theorem a6R (td:TD) (x hi mx:SVal) (k:SVal → Option R):a4Z td x hi mx k = (a4Z td x hi mx some).bind k:=by
 unfold a4Z
 split
 · simp only [n5,bind_some,Option.bind_none]
 · rfl
theorem b2G (e:CT) (n:Nat) (agg:Bool) (cs:List Leaf) (j:Int) (k:SVal → Option R):b8P e n agg cs j k = (b8P e n agg cs j some).bind k:=by
 unfold b8P
 split
 · simp only [n5,Option.bind_none,Option.bind_assoc]
   congr 1
   congr 1
   funext x
   split <;> rfl
 · rfl
theorem a7T (td:TD) (cs:List Leaf) (off:Nat) (k:SVal → Option R):a5u td cs off k = (a5u td cs off some).bind k:=by
 unfold a5u
 cases Nat.ble (off + td.size) cs.length
 · rfl
 · simp only [cond_true]; split <;> rfl
theorem a2W (s:St) (td:TD) (a:SVal) (k:SVal → Option R):L5 s td a k = (L5 s td a some).bind k:=by
 unfold L5
 repeat' split
 all_goals (first | rfl | exact a7T _ _ _ _ | (simp only [Option.bind_assoc]; congr 1; funext x; exact a7T _ _ _ _) | (simp only [n5,Option.bind_none]; congr 1; exact a7T _ _ _ _))
theorem b4c (id i:Nat) (e:CT) (y:e.denote) (s:St) (k:St → Option R):b5v id i e y s k = (b5v id i e y s some).bind k:=by
 unfold b5v
 repeat' split
 all_goals (first | rfl | (simp only [n5,bind_some,Option.bind_none]))
theorem b5G (s:St) (td:TD) (id i off:Nat) (e:CT) (l:List e.denote) (vs:List Leaf) (k:St → Option R):a9x s td id i off e l vs k = (a9x s td id i off e l vs some).bind k:=by
 unfold a9x
 repeat' split
 all_goals (first | rfl | (simp only [n5,bind_some,Option.bind_none,Option.bind_assoc]))
 all_goals
  congr 1
  congr 1
  all_goals first
   | rfl
   | (congr 1; exact b4c _ _ _ _ _ _)
   | (congr 1; funext x; split <;> first | rfl | exact b4c _ _ _ _ _ _)
theorem b5H (s:St) (td:TD) (a v:SVal) (k:St → Option R):a5V s td a v k = (a5V s td a v some).bind k:=by
 unfold a5V
 repeat' split
 all_goals (first | rfl | (simp only [n5,bind_some,Option.bind_none,Option.bind_assoc]; done) | (simp only [n5,bind_some,Option.bind_none,Option.bind_assoc]; rw [← b5G]))
theorem c1H (s:St) (id i:Nat) (k:SVal → Option R):b5o s id i k = (b5o s id i some).bind k:=by
 unfold b5o
 split
 · exact a3X (fun i' => some (.one (.ptr id i'))) k _ _
 · rfl
theorem a6i (td:TD) (s:St) (x i:SVal) (k:St → Option R):a4h td s x i k = (a4h td s x i some).bind k:=by
 unfold a4h
 split
 · split
   · split
     · split
       · simp only [n5,bind_some,Option.bind_none]
       · rfl
     · rfl
   · rfl
 · rfl
theorem a2d (td:TD) (s:St) (x i:SVal) (k:SVal → Option R):Y1 td s x i k = (Y1 td s x i some).bind k:=by
 unfold Y1
 repeat' split
 all_goals (first | rfl | (simp only [n5,bind_some,Option.bind_none,Option.bind_assoc]; done) | (simp only [n5,Option.bind_none]; rw [← c1H]))
theorem a0d (s:St) (id:Nat) (e:CT) (p:Option (Nat × Nat)) (xs:List e.denote) (k:St → Option R):a7o s id e p xs k = (a7o s id e p xs some).bind k:=by
 rfl
theorem a6b (e:CT) (s:St) (x y:SVal) (k:SVal → St → Option R):a4e e s x y k = (a4e e s x y fun v s => some (v,s)).bind fun p => k p.1 p.2:=by
 unfold a4e
 repeat' split
 all_goals (first | rfl | (simp only [n5,bind_some,Option.bind_none,Option.bind_assoc]))
theorem a8G (k:SVal → Option R):∀ (j:IntKind) (a:Int) (l:List SVal),a0E k j a l = (a0E some j a l).bind k
 | j,a,[] => rfl
 | j,a,x :: r => by
   cases x with
   | one l => cases l <;> first | rfl | exact a8G k j _ r
   | _ => rfl
theorem a8J (k:SVal → Option R):∀ (j:IntKind) (a:Int) (l:List SVal),a0F k j a l = (a0F some j a l).bind k
 | j,a,[] => rfl
 | j,a,x :: r => by
   cases x with
   | one l => cases l <;> first | rfl | exact a8J k j _ r
   | _ => rfl
theorem a4q (x:SVal) (i:Nat) (k:SVal → Option R):a2a x i k = (a2a x i some).bind k:=by
 unfold a2a
 repeat' split
 all_goals rfl
theorem a6t (td:TD) (s:St) (x i:SVal) (b:Bool) (k:SVal → Option R):U1 td s x i b k = (U1 td s x i b some).bind k:=by
 unfold U1
 repeat' split
 all_goals rfl
theorem b4q (td:TD) (s:St) (x i y:SVal) (k:St → Option R):a3h td s x i y k = (a3h td s x i y some).bind k:=by
 unfold a3h
 split
 · simp only [n5,Option.bind_none]
   congr 1
   repeat' split
   all_goals first | rfl | simp only [n5,bind_some,Option.bind_none]
 · rfl
theorem b0M (s:St) (td:TD) (a:SVal) (k:SVal → St → Option R):b6o s td a k = (b6o s td a fun v s => some (v,s)).bind fun p => k p.1 p.2:=by
 have hl:L5 s td a (fun r => k r s) = (L5 s td a fun r => some (r,s)).bind fun p => k p.1 p.2:=by
  rw [a2W]
  conv => rhs; rw [a2W]
  simp only [Option.bind_assoc,bind_some]
 exact hl
theorem a9y (s:St) (td:TD) (a v:SVal) (k:St → Option R):b5I s td a v k = (b5I s td a v some).bind k:=by
 exact b5H _ _ _ _ _
theorem a6u (td:TD) (s:St) (x i:SVal) (b:Bool) (k:SVal → St → Option R):b1O td s x i b k = (b1O td s x i b fun v s => some (v,s)).bind fun p => k p.1 p.2:=by
 have hl:U1 td s x i b (fun r => k r s) = (U1 td s x i b fun r => some (r,s)).bind fun p => k p.1 p.2:=by
  rw [a6t]
  conv => rhs; rw [a6t]
  simp only [Option.bind_assoc,bind_some]
 exact hl
theorem a0e (td:TD) (s:St) (x i y:SVal) (k:St → Option R):a7q td s x i y k = (a7q td s x i y some).bind k:=by
 exact b4q _ _ _ _ _ _
theorem a2b (td:TD) (x:SVal) (i:Nat) (k:SVal → Option R):X7 td x i k = (X7 td x i some).bind k:=by
 unfold X7
 repeat' split
 all_goals rfl
theorem a8a (td:TD) (x:SVal) (i:Nat) (k:SVal → Option R):a7Z td x i k = (a7Z td x i some).bind k:=by
 unfold a7Z
 repeat' split
 all_goals rfl
end Go.Bm
end
section
open Option (bind_some)
namespace Go.Bm
set_option linter.unusedVariables false
set_option linter.unusedSimpArgs false
structure Tb where
 tab:Nat → Option TD
 eqt:Nat → Bool
 keys:Nat → List Nat
 lend:Nat → Bool
 mkr:Nat → Bool
 mt:Nat → String → Option (Nat × Option (Nat × Nat))
 gp:World → (Nat → Prop) → Prop
 gv:Nat → Option Dyn
 kin:Nat → Tm
 kouts:Nat → List Tm
 bk:Nat → Blk
abbrev Tb.RF (T:Tb):Type:=(φ:Nat) → (T.kin φ).ct.denote → Option (H4 (T.kouts φ)).denote
abbrev Tb.RB (T:Tb):Type:=(κ:Nat) → (T.bk κ).ins.ct.denote → Option (H0 (T.bk κ).exits).denote
abbrev Tb.cx (T:Tb) (rf:T.RF) (rb:T.RB):Cx:=⟨T.tab,T.eqt,T.keys,T.lend,T.mkr,T.mt,T.gp,T.gv,T.kin,T.kouts,T.bk,rf,rb⟩
variable {R A:Type} {T:Tb}
theorem a1K {X:(A → Option R) → Option R} {X':(A → Option St) → Option St} {Y:Option A} (h:∀ k,X k = Y.bind k) (h':∀ k,X' k = Y.bind k) (g:A → St) (k:St → Option R) :
  X (fun r => k (g r)) = (X' fun r => some (g r)).bind k:=by
 rw [h,h',Option.bind_assoc]; rfl
def a5F (o:Oper):Option (Option String × Operand):=match o.op with
 | .call c => match c.callee with
   | .value f => some (none,f)
   | .invoke x name => some (some name,x)
   | _ => none
 | _ => none
def c0d (cx:Cx):Option String → SVal → List SVal → St → (SVal → St → Option R) → Option R
 | none => fun v args s k => a6f cx v args s k b6s
 | some name => b6l cx name
theorem d2e {X:(A → St → Option R) → Option R} {X':(A → St → Option St) → Option St} {Y:Option (A × St)} (h:∀ k,X k = Y.bind fun p => k p.1 p.2) (h':∀ k,X' k = Y.bind fun p => k p.1 p.2) (g:A → St → St) (k:St → Option R) :
  X (fun r s => k (g r s)) = (X' fun r s => some (g r s)).bind k:=by
 rw [h,h',Option.bind_assoc]; rfl
theorem b1j (rf rf':T.RF) (rb rb':T.RB) (o:Oper) (s:St) (k:St → Option R) (hc:a5F o = none):j6 (T.cx rf rb) o s k = (j6 (T.cx rf' rb') o s some).bind k:=by
 unfold j6
 dsimp only [Tb.cx]
 split
 · split <;> rfl
 · split <;> rfl
 · repeat' split
   all_goals (first | rfl | simp only [n5,bind_some,Option.bind_none])
   all_goals (congr 1 <;> split <;> rfl)
 · split <;> rfl
 · repeat' split
   all_goals (first | rfl | simp only [n5,bind_some,Option.bind_none])
 · repeat' split
   all_goals rfl
 · repeat' split
   all_goals (first | rfl | (simp only [n5,bind_some,Option.bind_none]; done) | (simp only [n5,bind_some,Option.bind_none]; congr 1; (repeat' split) <;> rfl))
 · split
   · split
     · exact a1K (fun k => a2W _ _ _ k) (fun k => a2W _ _ _ k) _ k
     · rfl
   · split
     · exact d2e (fun k => b0M _ _ _ k) (fun k => b0M _ _ _ k) _ k
     · rfl
 · split
   · exact a1K (fun k => a9y _ _ _ _ k) (fun k => a9y _ _ _ _ k) _ k
   · rfl
 · split <;> rfl
 · split
   · exact a1K (fun k => b2K _ _ _ _ _ k) (fun k => b2K _ _ _ _ _ k) _ k
   · rfl
 · split
   · exact a1K (fun k => b6J _ _ k) (fun k => b6J _ _ k) _ k
   · rfl
 · split
   · rfl
   · rfl
   · exact d2e (fun k => b0s _ _ _ _ _ _ k) (fun k => b0s _ _ _ _ _ _ k) _ k
   · rfl
 · repeat' split
   all_goals (first | rfl | simp only [n5,bind_some,Option.bind_none])
 · split
   · split
     · exact a1K (fun k => a9q _ _ _ _ _ k) (fun k => a9q _ _ _ _ _ k) _ k
     · rfl
   · rfl
 · split
   · exact a1K (fun k => a6R _ _ _ _ k) (fun k => a6R _ _ _ _ k) _ k
   · rfl
 · split
   · exact a1K (fun k => a2b _ _ _ k) (fun k => a2b _ _ _ k) _ k
   · rfl
 · split
   · exact a1K (fun k => a8a _ _ _ k) (fun k => a8a _ _ _ k) _ k
   · rfl
 · split
   · exact a1K (fun k => a2d _ _ _ _ k) (fun k => a2d _ _ _ _ k) _ k
   · rfl
 · split
   · simp only [n5,bind_some,Option.bind_none,Option.bind_assoc]
   · exact a1K (fun k => b2G _ _ _ _ _ k) (fun k => b2G _ _ _ _ _ k) _ k
   · rfl
 · split
   · exact a1K (fun k => a4q _ _ k) (fun k => a4q _ _ k) _ k
   · rfl
 · split <;> rfl
 · split
   · exact d2e (fun k => a6u _ _ _ _ _ k) (fun k => a6u _ _ _ _ _ k) _ k
   · rfl
 · split
   · exact a1K (fun k => a0e _ _ _ _ _ k) (fun k => a0e _ _ _ _ _ k) _ k
   · rfl
 · split
   · exact a1K (fun k => a0e _ _ _ _ _ k) (fun k => a0e _ _ _ _ _ k) _ k
   · rfl
 · split <;> rfl
 · rename_i c ho
   split
   · repeat' split
     all_goals rfl
   · split
     · cases Nat.beq _ _
       · rfl
       · simp only [cond_true]
         split
         · simp only [n5]
           congr 1
           rw [a6b]
           conv => rhs; rw [a6b]
           simp only [Option.bind_assoc,bind_some,Option.bind_none]
         · rfl
     · rfl
   · split
     · split
       · exact a1K (fun k => a0d _ _ _ _ _ k) (fun k => a0d _ _ _ _ _ k) _ k
       · rfl
     · rfl
   · split
     · split
       · exact a1K (fun k => a6i _ _ _ _ k) (fun k => a6i _ _ _ _ k) _ k
       · rfl
     · rfl
   · split
     · split
       · simp only [n5,Option.bind_none]
         congr 1
         split
         · exact a1K (fun k => a0d _ _ _ _ _ k) (fun k => a0d _ _ _ _ _ k) _ k
         · rfl
       · rfl
     · rfl
   · split
     · exact a1K (fun k => a8G k _ _ _) (fun k => a8G k _ _ _) _ k
     · rfl
   · split
     · exact a1K (fun k => a8J k _ _ _) (fun k => a8J k _ _ _) _ k
     · rfl
   · rename_i f hf
     simp [a5F,ho,hf] at hc
   · rename_i x nm hf
     simp [a5F,ho,hf] at hc
   · rfl
 · split <;> rfl
 · split
   · simp only [n5,bind_some,Option.bind_none]
   · rfl
 · split
   · simp only [n5,bind_some,Option.bind_none]
   · rfl
   · rfl
 · rfl
theorem a9s (cx:Cx) {o:Oper} {f:Option String × Operand} (hc:a5F o = some f) (s:St) (k:St → Option R):∃ c:Call,o.op = .call c ∧ j6 cx o s k = match l6 s.env f.2,I9 s.env c.args.toList with
   | some v,some vs => c0d cx f.1 v vs s fun r s' => k (s'.set o.dst r)
   | _,_ => none:=by
 unfold a5F at hc
 split at hc
 · rename_i c ho
   split at hc
   · rename_i f' hf
     cases hc
     exact ⟨c,ho,by simp only [j6,ho,hf]; rfl⟩
   · rename_i f' nm hf
     cases hc
     exact ⟨c,ho,by simp only [j6,ho,hf]; rfl⟩
   · cases hc
 · cases hc
end Go.Bm
end
section
namespace Go.Bm
set_option linter.unusedVariables false
set_option linter.unusedSimpArgs false
def Evt (p:Nat → Prop):Prop:=∃ N,∀ n,N ≤ n → p n
theorem Evt.all {p:Nat → Prop} (h:∀ n,p n):Evt p:=⟨0,fun n _ => h n⟩
theorem Evt.mono {p q:Nat → Prop} (h:Evt p) (g:∀ n,p n → q n):Evt q:=by obtain ⟨N,h⟩:=h; exact ⟨N,fun n hn => g n (h n hn)⟩
theorem Evt.and {p q:Nat → Prop} (h:Evt p) (g:Evt q):Evt fun n => p n ∧ q n:=by
 obtain ⟨N,h⟩:=h; obtain ⟨M,g⟩:=g
 exact ⟨max N M,fun n hn => ⟨h n (by omega),g n (by omega)⟩⟩
variable {R:Type} {T:Tb} {rfi:T.RF} {rbi:T.RB} {rf:Nat → T.RF} {rb:Nat → T.RB}
def M6 (rfi:T.RF) (rf:Nat → T.RF):Prop:=∀ f d y,rfi f d = some y → Evt fun n => rf n f d = some y
def a3m (rbi:T.RB) (rb:Nat → T.RB):Prop:=∀ κ d y,rbi κ d = some y → Evt fun n => rb n κ d = some y
def a0U (r:R) (pi:F6 R) (p:Nat → F6 R):Prop:=∀ ty j m s',pi ty j m s' = some r → Evt fun n => p n ty j m s' = some r
theorem b8a {r:R}:a0U r b6s fun _ => b6s:=fun _ _ _ _ h => by cases h
theorem a8y {T':Tm} {ρ:Rho} {s:St} {ki:SVal → St → Option R} {k:Nat → SVal → St → Option R} {pi:F6 R} {p:Nat → F6 R} {r:R} (hk:∀ v s',ki v s' = some r → Evt fun n => k n v s' = some r) (hp:a0U r pi p) {T2:Tm} {ds:List Dyn} (h:a2e T' ρ s T2 ds ki pi = some r):Evt fun n => a2e T' ρ s T2 ds (k n) (p n) = some r:=by
 unfold a2e at h ⊢
 split at h
 · split at h
   · exact hk _ _ h
   · cases h
 · exact hp _ _ _ _ h
 · cases h
theorem a8z {T':Tm} {ρ:Rho} {s:St} {ki:SVal → St → Option R} {k:Nat → SVal → St → Option R} {pi:F6 R} {p:Nat → F6 R} {r:R} (hk:∀ v s',ki v s' = some r → Evt fun n => k n v s' = some r) (hp:a0U r pi p):∀ {l:List Tm} {y:(H4 l).denote},
  a0k T' ρ s l y ki pi = some r → Evt fun n => a0k T' ρ s l y (k n) (p n) = some r
 | [],y,h => by cases h
 | [T2],y,h => by
   simp only [a0k] at h ⊢
   exact a8y hk hp h
 | T2 :: b :: r',.inl y,h => by
   simp only [a0k] at h ⊢
   exact a8y hk hp h
 | T2 :: b :: r',.inr y,h => by
   simp only [a0k] at h ⊢
   exact a8z hk hp (l:=b :: r') h
theorem a8A {s:St} {ki:SVal → St → Option R} {k:Nat → SVal → St → Option R} {r:R} (hk:∀ v s',ki v s' = some r → Evt fun n => k n v s' = some r):∀ {l:List Tm} {y:(H4 l).denote},
  S2 s l y ki = some r → Evt fun n => S2 s l y (k n) = some r
 | [],y,h => by cases h
 | [T2],y,h => by
   simp only [S2] at h ⊢
   cases hb:!T2.O6 && (T2.objs.isEmpty && (T2.M4 (l8 T2.cts y)).all SVal.flat) with
   | false => rw [hb] at h; cases h
   | true =>
     rw [hb] at h
     cases hv:J5 (T2.M4 (l8 T2.cts y)) with
     | none => rw [hv] at h; cases h
     | some v => rw [hv] at h; exact hk _ _ h
 | T2 :: b :: r',.inl y,h => by
   simp only [S2] at h ⊢
   cases hb:!T2.O6 && (T2.objs.isEmpty && (T2.M4 (l8 T2.cts y)).all SVal.flat) with
   | false => rw [hb] at h; cases h
   | true =>
     rw [hb] at h
     cases hv:J5 (T2.M4 (l8 T2.cts y)) with
     | none => rw [hv] at h; cases h
     | some v => rw [hv] at h; exact hk _ _ h
 | T2 :: b :: r',.inr y,h => by
   simp only [S2] at h ⊢
   exact a8A hk (l:=b :: r') h
theorem a6g (hf:M6 rfi rf) {args:List SVal} {s:St} {ki:SVal → St → Option R} {k:Nat → SVal → St → Option R} {pi:F6 R} {p:Nat → F6 R} {r:R} (hk:∀ v s',ki v s' = some r → Evt fun n => k n v s' = some r) (hp:a0U r pi p):∀ (l:List Nat),
  Z8 (T.cx rfi rbi) args s ki pi l = some r → Evt fun n => Z8 (T.cx (rf n) (rb n)) args s (k n) (p n) l = some r
 | [],h => by cases h
 | φ :: l,h => by
   simp only [Z8] at h ⊢
   dsimp only [Tb.cx] at h ⊢
   cases hpk:a3S (T.kin φ) args s with
   | none => rw [hpk] at h; exact a6g hf hk hp l h
   | some q =>
     obtain ⟨d,ρ,s1⟩:=q
     rw [hpk] at h
     obtain ⟨y,h1,h2⟩:=Option.bind_eq_some_iff.1 h
     cases hl:T.lend φ with
     | false =>
       rw [hl] at h2
       exact ((hf φ d y h1).and (a8z hk hp h2)).mono fun n hn => by simp only [hn.1,Option.bind_some,cond_false]; exact hn.2
     | true =>
       rw [hl] at h2
       cases hb:(T.kin φ).objs.isEmpty with
       | false => rw [hb] at h2; cases h2
       | true =>
         rw [hb] at h2
         exact ((hf φ d y h1).and (a8A hk h2)).mono fun n hn => by simp only [hn.1,Option.bind_some,cond_true]; exact hn.2
theorem b0q (hf:M6 rfi rf) {v:SVal} {args:List SVal} {s:St} {ki:SVal → St → Option R} {k:Nat → SVal → St → Option R} {pi:F6 R} {p:Nat → F6 R} {r:R} (hk:∀ v s',ki v s' = some r → Evt fun n => k n v s' = some r) (hp:a0U r pi p)
  (h:a6f (T.cx rfi rbi) v args s ki pi = some r):Evt fun n => a6f (T.cx (rf n) (rb n)) v args s (k n) (p n) = some r:=by
 unfold a6f at h ⊢
 split at h
 · exact a6g hf hk hp _ h
 · cases h
theorem b7y (hf:M6 rfi rf) {m:Option String} {v:SVal} {args:List SVal} {s:St} {ki:SVal → St → Option R} {k:Nat → SVal → St → Option R} {r:R} (hk:∀ v s',ki v s' = some r → Evt fun n => k n v s' = some r)
  (h:c0d (T.cx rfi rbi) m v args s ki = some r):Evt fun n => c0d (T.cx (rf n) (rb n)) m v args s (k n) = some r:=by
 cases m with
 | none => exact b0q hf hk b8a h
 | some name => exact absurd (show (none:Option R) = some r from h) (by simp)
theorem a5T (hf:M6 rfi rf) {o:Oper} {s:St} {ki:St → Option R} {k:Nat → St → Option R} {r:R} (hk:∀ s',ki s' = some r → Evt fun n => k n s' = some r)
  (h:j6 (T.cx rfi rbi) o s ki = some r):Evt fun n => j6 (T.cx (rf n) (rb n)) o s (k n) = some r:=by
 cases hc:a5F o with
 | none =>
   rw [b1j rfi rfi rbi rbi o s ki hc] at h
   obtain ⟨s',h1,h2⟩:=Option.bind_eq_some_iff.1 h
   exact (hk s' h2).mono fun n hn => by rw [b1j (rf n) rfi (rb n) rbi o s (k n) hc,h1]; exact hn
 | some f =>
   obtain ⟨c,ho,e⟩:=a9s (T.cx rfi rbi) hc s ki
   rw [e] at h
   split at h
   case h_2 => cases h
   rename_i v vs hv hvs
   refine (b7y (rb:=rb) (k:=fun n r s' => k n (s'.set o.dst r)) hf (fun v s' h' => hk _ h') h).mono fun n hn => ?_
   obtain ⟨c',ho',e'⟩:=a9s (T.cx (rf n) (rb n)) hc s (k n)
   rw [ho] at ho'; cases ho'
   rw [e',hv,hvs]
   exact hn
theorem a3f (hf:M6 rfi rf) {o:Oper} {s:St} {ki:St → Option R} {k:Nat → St → Option R} {pi:F6 R} {p:Nat → F6 R} {r:R} (hk:∀ s',ki s' = some r → Evt fun n => k n s' = some r) (hp:a0U r pi p)
  (h:O1 (T.cx rfi rbi) o s ki pi = some r):Evt fun n => O1 (T.cx (rf n) (rb n)) o s (k n) (p n) = some r:=by
 unfold O1 at h ⊢
 split at h
 · split at h
   · exact hp _ _ _ _ h
   · cases h
 · split at h
   · split at h
     · exact b0q (k:=fun n r s' => k n (s'.set o.dst r)) hf (fun v s' h' => hk _ h') hp h
     · cases h
   · rename_i hne
     refine (a5T (rb:=rb) hf hk h).mono fun n hn => ?_
     exact hn
 · refine (a5T (rb:=rb) hf hk h).mono fun n hn => ?_
   exact hn
theorem P8 {b want:Bool} {d:Nat} {dst:Option Nat} {s:St} {yi ni:St → Option R} {y n:Nat → St → Option R} {r:R} (hy:∀ s',yi s' = some r → Evt fun i => y i s' = some r) (hn:∀ s',ni s' = some r → Evt fun i => n i s' = some r)
  (h:Y0 b want d dst s yi ni = some r):Evt fun i => Y0 b want d dst s (y i) (n i) = some r:=by
 cases b <;> cases want <;> first | exact hy _ h | exact hn _ h
theorem a2Q (hf:M6 rfi rf) {all:List Oper} {ki:St → Option R} {k:Nat → St → Option R} {pi:F6 R} {p:Nat → F6 R} {r:R} (hk:∀ s',ki s' = some r → Evt fun n => k n s' = some r) (hp:a0U r pi p):∀ (l:List Oper) (s:St),
  G4 (T.cx rfi rbi) all pi l s ki = some r → Evt fun n => G4 (T.cx (rf n) (rb n)) all (p n) l s (k n) = some r
 | [],s,h => hk s h
 | o :: l,s,h => by
   have ih:=a2Q (all:=all) hf hk hp l
   simp only [G4] at h ⊢
   have yes:∀ s',O1 (T.cx rfi rbi) o s' (fun s'' => G4 (T.cx rfi rbi) all pi l s'' ki) pi = some r → Evt fun n => O1 (T.cx (rf n) (rb n)) o s' (fun s'' => G4 (T.cx (rf n) (rb n)) all (p n) l s'' (k n)) (p n) = some r :=
    fun s' h' => a3f (k:=fun n s'' => G4 (T.cx (rf n) (rb n)) all (p n) l s'' (k n)) hf (fun s'' h'' => ih s'' h'') hp h'
   cases hg:o.guard with
   | none =>
     rw [hg] at h
     exact (yes s h).mono fun n hn => hn
   | some jw =>
     obtain ⟨j,want⟩:=jw
     rw [hg] at h
     cases hd:(nth all j).bind (·.dst) with
     | none => simp only [hd] at h; cases h
     | some d =>
       simp only [hd] at h ⊢
       cases hl:look s.env d with
       | none => rw [hl] at h; cases h
       | some v =>
         rw [hl] at h
         cases v with
         | one l' =>
           cases l' with
           | bool b =>
             cases b
             · exact P8 (b:=false) (y:=fun n s => O1 (T.cx (rf n) (rb n)) o s (fun s' => G4 (T.cx (rf n) (rb n)) all (p n) l s' (k n)) (p n)) (n:=fun n s => G4 (T.cx (rf n) (rb n)) all (p n) l s (k n)) yes ih h
             · exact P8 (b:=true) (y:=fun n s => O1 (T.cx (rf n) (rb n)) o s (fun s' => G4 (T.cx (rf n) (rb n)) all (p n) l s' (k n)) (p n)) (n:=fun n s => G4 (T.cx (rf n) (rb n)) all (p n) l s (k n)) yes ih h
           | _ => cases h
         | skip => exact ih _ h
         | _ => cases h
theorem b0B (hf:M6 rfi rf) {all:List Oper} {o:Oper} {s:St} {ki:St → Option R} {k:Nat → St → Option R} {pi:F6 R} {p:Nat → F6 R} {r:R} (hk:∀ s',ki s' = some r → Evt fun n => k n s' = some r) (hp:a0U r pi p)
  (h:a6k (T.cx rfi rbi) all o s ki pi = some r):Evt fun n => a6k (T.cx (rf n) (rb n)) all o s (k n) (p n) = some r:=by
 unfold a6k at h ⊢
 cases hg:o.guard with
 | none => rw [hg] at h; exact a3f hf hk hp h
 | some jw =>
   obtain ⟨j,want⟩:=jw
   rw [hg] at h
   cases hd:(nth all j).bind (·.dst) with
   | none => simp only [hd] at h; cases h
   | some d =>
     simp only [hd] at h ⊢
     cases hl:look s.env d with
     | none => rw [hl] at h; cases h
     | some v =>
       rw [hl] at h
       cases v with
       | one l' =>
         cases l' with
         | bool b =>
           cases b
           · exact P8 (b:=false) (y:=fun n s => O1 (T.cx (rf n) (rb n)) o s (k n) (p n)) (n:=fun n s => k n s) (fun s' h' => a3f hf hk hp h') hk h
           · exact P8 (b:=true) (y:=fun n s => O1 (T.cx (rf n) (rb n)) o s (k n) (p n)) (n:=fun n s => k n s) (fun s' h' => a3f hf hk hp h') hk h
         | _ => cases h
       | skip => exact hk _ h
       | _ => cases h
theorem a5U (hf:M6 rfi rf) {o:Oper} {s:St} {ki:St → Option R} {k:Nat → St → Option R} {r:R} (hk:∀ s',ki s' = some r → Evt fun n => k n s' = some r)
  (h:stepT (T.cx rfi rbi) o s ki = some r):Evt fun n => stepT (T.cx (rf n) (rb n)) o s (k n) = some r:=by
 unfold stepT at h ⊢
 cases hs:D3 o s with
 | false => rw [hs] at h; cases h
 | true => rw [hs] at h; exact a5T hf hk h
theorem b7C (hf:M6 rfi rf) {all:List Oper} {o:Oper} {s:St} {ki:St → Option R} {k:Nat → St → Option R} {r:R} (hk:∀ s',ki s' = some r → Evt fun n => k n s' = some r)
  (h:b0C (T.cx rfi rbi) all o s ki = some r):Evt fun n => b0C (T.cx (rf n) (rb n)) all o s (k n) = some r:=by
 unfold b0C at h ⊢
 cases hg:o.guard with
 | none => rw [hg] at h; exact a5U hf hk h
 | some jw =>
   obtain ⟨j,want⟩:=jw
   rw [hg] at h
   cases hd:(nth all j).bind (·.dst) with
   | none => simp only [hd] at h; cases h
   | some d =>
     simp only [hd] at h ⊢
     cases hl:look s.env d with
     | none => rw [hl] at h; cases h
     | some v =>
       rw [hl] at h
       cases v with
       | one l' =>
         cases l' with
         | bool b =>
           cases b
           · exact P8 (b:=false) (y:=fun n s => stepT (T.cx (rf n) (rb n)) o s (k n)) (n:=fun n s => k n s) (fun s' h' => a5U hf hk h') hk h
           · exact P8 (b:=true) (y:=fun n s => stepT (T.cx (rf n) (rb n)) o s (k n)) (n:=fun n s => k n s) (fun s' h' => a5U hf hk h') hk h
         | _ => cases h
       | skip => exact hk _ h
       | _ => cases h
theorem b8O {x y:Option R} {r:R} (h1:x = some r) (h2:y = some r):l0 x y = some r:=by rw [h1,h2,l5]
theorem a0w (hf:M6 rfi rf) {all:List Oper} {ki:St → Option R} {k:Nat → St → Option R} {pi:F6 R} {p:Nat → F6 R} {r:R} (hk:∀ s',ki s' = some r → Evt fun n => k n s' = some r) (hp:a0U r pi p):∀ (t:OrdT) (s:St),
  L4 (T.cx rfi rbi) all pi t s ki = some r → Evt fun n => L4 (T.cx (rf n) (rb n)) all (p n) t s (k n) = some r
 | .done,s,h => hk s h
 | .take i t,s,h => by
   simp only [L4] at h ⊢
   cases ho:nth all i with
   | none => rw [ho] at h; cases h
   | some o =>
     rw [ho] at h
     exact b7C (k:=fun n s' => L4 (T.cx (rf n) (rb n)) all (p n) t s' (k n)) hf (fun s' h' => a0w hf hk hp t s' h') h
 | .only i t,s,h => by
   simp only [L4] at h ⊢
   cases ho:nth all i with
   | none => rw [ho] at h; cases h
   | some o =>
     rw [ho] at h
     obtain ⟨hrf,h⟩:=e8 h
     simp only [hrf,cond_true]
     exact b0B (k:=fun n s' => L4 (T.cx (rf n) (rb n)) all (p n) t s' (k n)) hf (fun s' h' => a0w hf hk hp t s' h') hp h
 | .alt i t q,s,h => by
   simp only [L4] at h ⊢
   cases ho:nth all i with
   | none => rw [ho] at h; cases h
   | some o =>
     rw [ho] at h
     obtain ⟨hrf,h⟩:=e8 h
     simp only [hrf,cond_true]
     obtain ⟨h1,h2⟩:=a0V h
     exact ((b0B (k:=fun n s' => L4 (T.cx (rf n) (rb n)) all (p n) t s' (k n)) hf (fun s' h' => a0w hf hk hp t s' h') hp h1).and (a0w hf hk hp q s h2)).mono fun n hn => b8O hn.1 hn.2
theorem a8B {T':Tm} {ρ:Rho} {keep:List Nat} {s:St} {ki:Ex → St → Option R} {k:Nat → Ex → St → Option R} {r:R} (hk:∀ e s',ki e s' = some r → Evt fun n => k n e s' = some r) {e:Ex} {slots:List Nat} {T2:Tm} {ds:List Dyn}
  (h:a3M T' ρ keep s e slots T2 ds ki = some r):Evt fun n => a3M T' ρ keep s e slots T2 ds (k n) = some r:=by
 cases e with
 | pan t j n =>
   simp only [a3M] at h ⊢
   split at h
   · exact hk _ _ h
   · cases h
 | _ => exact hk _ _ h
theorem a4w {T':Tm} {ρ:Rho} {keep:List Nat} {s:St} {ki:Ex → St → Option R} {k:Nat → Ex → St → Option R} {r:R} (hk:∀ e s',ki e s' = some r → Evt fun n => k n e s' = some r):∀ {l:List (Ex × List Nat × Tm)} {y:(H0 l).denote},
  a0D T' ρ keep s l y ki = some r → Evt fun n => a0D T' ρ keep s l y (k n) = some r
 | [],y,h => by cases h
 | [(e,slots,T2)],y,h => a8B hk h
 | (e,slots,T2) :: b :: r',.inl y,h => a8B hk h
 | (e,slots,T2) :: b :: r',.inr y,h => a4w hk (l:=b :: r') h
theorem S9 (hb:a3m rbi rb) {κ:Nat} {s:St} {ki:Ex → St → Option R} {k:Nat → Ex → St → Option R} {r:R} (hk:∀ e s',ki e s' = some r → Evt fun n => k n e s' = some r)
  (h:G3 (T.cx rfi rbi) κ s ki = some r):Evt fun n => G3 (T.cx (rf n) (rb n)) κ s (k n) = some r:=by
 unfold G3 at h ⊢
 dsimp only [Tb.cx] at h ⊢
 cases hl:T9 s.env (T.bk κ).slots with
 | none => rw [hl] at h; cases h
 | some vs =>
   simp only [hl] at h ⊢
   cases hp:a3S (T.bk κ).ins vs s with
   | none => rw [hp] at h; cases h
   | some p =>
     obtain ⟨d,ρ,s1⟩:=p
     simp only [hp] at h ⊢
     obtain ⟨y,h1,h2⟩:=Option.bind_eq_some_iff.1 h
     exact ((hb κ _ y h1).and (a4w hk h2)).mono fun n hn => by rw [hn.1]; exact hn.2
theorem b0Q {bi:St → (Ex → St → Option R) → Option R} {b:Nat → St → (Ex → St → Option R) → Option R} {r:R}
  (hbd:∀ (ki:Ex → St → Option R) (k:Nat → Ex → St → Option R) (s:St),(∀ e s',ki e s' = some r → Evt fun n => k n e s' = some r) → bi s ki = some r → Evt fun n => b n s (k n) = some r)
  {ki:Ex → St → Option R} {k:Nat → Ex → St → Option R} (hk:∀ e s',ki e s' = some r → Evt fun n => k n e s' = some r):∀ (m:Nat) (s:St),a4B bi m s ki = some r → Evt fun n => a4B (b n) m s (k n) = some r
 | 0,s,h => by cases h
 | m + 1,s,h => by
   simp only [a4B] at h ⊢
   refine hbd _ (fun n e s' => match e with
    | .norm => a4B (b n) m s' (k n)
    | e => k n e s') s (fun e s' h' => ?_) h
   cases e with
   | norm => exact b0Q hbd hk m s' h'
   | out id => exact hk _ _ h'
   | ret => exact hk _ _ h'
   | pan t j m => exact hk _ _ h'
theorem N5 (hf:M6 rfi rf) (hb:a3m rbi rb) {H:Hn} {r:R}:∀ (c:Code) (ki:Ex → St → Option R) (k:Nat → Ex → St → Option R) (s:St),(∀ e s',ki e s' = some r → Evt fun n => k n e s' = some r) →
  ev (T.cx rfi rbi) H c s ki = some r → Evt fun n => ev (T.cx (rf n) (rb n)) H c s (k n) = some r
 | .skip,ki,k,s,hk,h => hk _ _ h
 | .region _ ops false,ki,k,s,hk,h => a2Q (k:=fun n => k n .norm) (p:=fun n t j m => k n (.pan t j m)) hf (fun s' h' => hk _ _ h') (fun t j m s' h' => hk _ _ h') _ s h
 | .region id ops true,ki,k,s,hk,h => by
   simp only [ev] at h ⊢
   cases hd:H.dk id with
   | none => rw [hd] at h; cases h
   | some p =>
     obtain ⟨slots,t⟩:=p
     rw [hd] at h
     exact a0w (k:=fun n s' => k n .norm { s' with hold:=[] }) (p:=fun n ty j m s' => k n (.pan ty j m) { s' with hold:=[] }) hf (fun s' h' => hk _ _ h') (fun ty j m s' h' => hk _ _ h') t _ h
 | .seq a b,ki,k,s,hk,h => by
   simp only [ev] at h ⊢
   refine N5 hf hb a _ (fun n e s' => match e with
    | .norm => match (n7 b).bind H.tk with
      | some κ => G3 (T.cx (rf n) (rb n)) κ s' (k n)
      | none => ev (T.cx (rf n) (rb n)) H b s' (k n)
    | e => k n e s') s (fun e s' h' => ?_) h
   cases e with
   | norm =>
     simp only at h' ⊢
     cases ht:(n7 b).bind H.tk with
     | none => rw [ht] at h'; exact N5 hf hb b ki k s' hk h'
     | some κ => rw [ht] at h'; exact S9 hb hk h'
   | out id => exact hk _ _ h'
   | ret => exact hk _ _ h'
   | pan t j m => exact hk _ _ h'
 | .cond c a b,ki,k,s,hk,h => by
   simp only [ev] at h ⊢
   cases hc:l6 s.env c with
   | none => rw [hc] at h; cases h
   | some v =>
     rw [hc] at h
     cases v with
     | one l =>
       cases l with
       | bool t =>
         cases t
         · exact N5 hf hb b ki k s hk h
         · exact N5 hf hb a ki k s hk h
       | anyb =>
         obtain ⟨h1,h2⟩:=a0V h
         refine ((N5 hf hb a ki k s hk h1).and (N5 hf hb b ki k s hk h2)).mono fun n hn => ?_
         show l0 _ _ = some r
         rw [hn.1,hn.2]; exact l5 _
       | _ => cases h
     | _ => cases h
 | .block id c,ki,k,s,hk,h => by
   simp only [ev] at h ⊢
   cases hl:H.lk id with
   | some κ => rw [hl] at h; exact S9 hb hk h
   | none =>
     rw [hl] at h
     refine N5 hf hb c _ (fun n e s' => match e with
      | .out id' => bif Nat.beq id' id then k n .norm s' else k n (.out id') s'
      | e => k n e s') s (fun e s' h' => ?_) h
     cases e with
     | norm => exact hk _ _ h'
     | ret => exact hk _ _ h'
     | pan t j m => exact hk _ _ h'
     | out id' =>
       simp only at h' ⊢
       cases hq:Nat.beq id' id with
       | true => rw [hq] at h'; exact hk _ _ h'
       | false => rw [hq] at h'; exact hk _ _ h'
 | .loop c,ki,k,s,hk,h => b0Q (b:=fun n => ev (T.cx (rf n) (rb n)) H c) (fun ki k s hk h => N5 hf hb c ki k s hk h) hk 16 s h
 | .exit id,ki,k,s,hk,h => hk _ _ h
 | .ret,ki,k,s,hk,h => hk _ _ h
 | .rangeFunc _ _ _ _,ki,k,s,hk,h => by simp [ev] at h
 | .scope _,ki,k,s,hk,h => by simp [ev] at h
 | .label _,ki,k,s,hk,h => by simp [ev] at h
 | .goto _,ki,k,s,hk,h => by simp [ev] at h
 | .refuse _,ki,k,s,hk,h => by simp [ev] at h
theorem a1s (rf rf':T.RF) (rb rb':T.RB) (s:St):∀ (rs:List ResultVar),F3 (T.cx rf rb) s rs = F3 (T.cx rf' rb') s rs
 | [] => rfl
 | r :: rs => by
   simp only [F3,a1s rf rf' rb rb' s rs]
   cases r <;> rfl
theorem b2W (hf:M6 rfi rf) (hb:a3m rbi rb) {H:Hn} {φ:Nat} {c:Code} {rs:List ResultVar} {d:(T.kin φ).ct.denote} {y:(H4 (T.kouts φ)).denote}
  (h:b7B (T.cx rfi rbi) H φ c rs d = some y):Evt fun n => b7B (T.cx (rf n) (rb n)) H φ c rs d = some y:=by
 unfold b7B at h ⊢
 dsimp only [Tb.cx] at h ⊢
 refine N5 hf hb c _ _ _ (fun e s' h' => ?_) h
 refine Evt.all fun n => ?_
 cases e with
 | out id => cases h'
 | pan t j m => exact h'
 | _ =>
   simp only at h' ⊢
   split at h'
   case h_2 => cases h'
   rename_i vs h1
   have h1':F3 (T.cx (rf n) (rb n)) s' rs = some vs:=by rw [a1s (rf n) rfi (rb n) rbi]; exact h1
   simp only [h1']; exact h'
theorem b0y (hf:M6 rfi rf) (hb:a3m rbi rb) {H:Hn} {κ:Nat} {c:BCode} {d:(T.bk κ).ins.ct.denote} {y:(H0 (T.bk κ).exits).denote}
  (h:a7W (T.cx rfi rbi) H κ c d = some y):Evt fun n => a7W (T.cx (rf n) (rb n)) H κ c d = some y:=by
 cases c with
 | tail c =>
   simp only [a7W] at h ⊢
   exact N5 hf hb c _ (fun n e s => F2 (s4 0 (T.bk κ).ins.objs) (T.bk κ).exits e s) _ (fun e s' h' => Evt.all fun n => h') h
 | loop id c =>
   simp only [a7W] at h ⊢
   dsimp only [Tb.cx] at h ⊢
   refine N5 hf hb c _ _ _ (fun e s' h' => ?_) h
   cases e with
   | ret => exact Evt.all fun n => h'
   | pan t j m => exact Evt.all fun n => h'
   | out id' => exact Evt.all fun n => h'
   | norm =>
     simp only at h' ⊢
     cases hl:T9 s'.env (T.bk κ).slots with
     | none => rw [hl] at h'; cases h'
     | some vs =>
       simp only [hl] at h' ⊢
       cases hp:a4I (T.bk κ).ins (s4 0 (T.bk κ).ins.objs) vs s' with
       | none =>
         simp only [hp] at h' ⊢
         cases ha:H.al κ with
         | none => rw [ha] at h'; cases h'
         | some κ2 =>
           simp only [ha] at h' ⊢
           exact S9 (T:=T) (k:=fun _ e' s' => F2 (s4 0 (T.bk κ).ins.objs) (T.bk κ).exits e' s') hb (fun e s' h'' => Evt.all fun n => h'') h'
       | some p =>
         obtain ⟨d',ρ,s1⟩:=p
         simp only [hp] at h' ⊢
         exact hb κ _ y h'
theorem b1D (hf:M6 rfi rf) (hb:a3m rbi rb) {H:Hn} {m:Nat} {X:DefX} {r:R}:∀ (c:Code) (ki:Ex → St → Option R) (k:Nat → Ex → St → Option R) (di:Ex → St → Option R) (kd:Nat → Ex → St → Option R) (s:St),
  (∀ e s',ki e s' = some r → Evt fun n => k n e s' = some r) → (∀ e s',di e s' = some r → Evt fun n => kd n e s' = some r) →
  evD (T.cx rfi rbi) H m X c s ki di = some r → Evt fun n => evD (T.cx (rf n) (rb n)) H m X c s (k n) (kd n) = some r
 | .region id ops false,ki,k,di,kd,s,hk,hd,h => by
   simp only [evD] at h ⊢
   split at h
   case h_2 => cases h
   split at h
   case h_2 => cases h
   split at h
   case h_2 => cases h
   rename_i t hcal hargs
   cases hb2:Nat.beq t X.t with
   | false => rw [hb2] at h; cases h
   | true =>
     rw [hb2] at h
     refine a2Q hf (k:=fun n s' => match look s'.env X.t with
      | some (.one (.fn f _ _)) => bif Nat.beq f X.f then kd n .norm s' else none
      | _ => none) (p:=fun n t j m => k n (.pan t j m)) (fun s' h' => ?_) (fun ty j m s' h' => hk _ _ h') _ _ h
     split at h'
     case h_2 => cases h'
     rename_i f _ _ hl
     cases hb3:Nat.beq f X.f with
     | false => rw [hb3] at h'; cases h'
     | true =>
       rw [hb3] at h'
       refine (hd _ _ h').mono fun n hn => ?_
       simp only [hl,hb3]
       exact hn
 | .seq a b,ki,k,di,kd,s,hk,hd,h => by
   simp only [evD] at h ⊢
   cases hh:b1I a with
   | true =>
     simp only [hh] at h ⊢
     cases hb2:o5 (X.t :: X.rs) m b with
     | false => rw [hb2] at h; cases h
     | true =>
       rw [hb2] at h
       refine b1D hf hb a _ (fun n e s' => match e with
        | .norm => none
        | e => k n e s') _ (fun n e s' => match e with
        | .norm => match (n7 b).bind H.tk with
          | some κ => G3 (T.cx (rf n) (rb n)) κ s' (kd n)
          | none => ev (T.cx (rf n) (rb n)) H b s' (kd n)
        | e => kd n e s') s (fun e s' h' => ?_) (fun e s' h' => ?_) h
       · cases e with
         | norm => cases h'
         | ret => exact hk _ _ h'
         | out id => exact hk _ _ h'
         | pan t j m => exact hk _ _ h'
       · cases e with
         | ret => exact hd _ _ h'
         | out id => exact hd _ _ h'
         | pan t j m => exact hd _ _ h'
         | norm =>
           simp only at h' ⊢
           cases hκ:(n7 b).bind H.tk with
           | some κ => simp only [hκ] at h' ⊢; exact S9 hb hd h'
           | none => simp only [hκ] at h' ⊢; exact N5 hf hb b di kd s' hd h'
   | false =>
     simp only [hh] at h ⊢
     cases hκ:(n7 b).bind H.tk with
     | some κ => simp only [hκ] at h; cases h
     | none =>
       simp only [hκ] at h ⊢
       refine N5 hf hb a _ (fun n e s' => match e with
        | .norm => evD (T.cx (rf n) (rb n)) H m X b s' (k n) (kd n)
        | e => k n e s') s (fun e s' h' => ?_) h
       cases e with
       | ret => exact hk _ _ h'
       | out id => exact hk _ _ h'
       | pan t j m => exact hk _ _ h'
       | norm => exact b1D hf hb b ki k di kd s' hk hd h'
 | .region _ _ true,ki,k,di,kd,s,hk,hd,h => by simp [evD] at h
 | .skip,ki,k,di,kd,s,hk,hd,h => by simp [evD] at h
 | .cond _ _ _,ki,k,di,kd,s,hk,hd,h => by simp [evD] at h
 | .block _ _,ki,k,di,kd,s,hk,hd,h => by simp [evD] at h
 | .loop _,ki,k,di,kd,s,hk,hd,h => by simp [evD] at h
 | .exit _,ki,k,di,kd,s,hk,hd,h => by simp [evD] at h
 | .ret,ki,k,di,kd,s,hk,hd,h => by simp [evD] at h
 | .rangeFunc _ _ _ _,ki,k,di,kd,s,hk,hd,h => by simp [evD] at h
 | .scope _,ki,k,di,kd,s,hk,hd,h => by simp [evD] at h
 | .label _,ki,k,di,kd,s,hk,hd,h => by simp [evD] at h
 | .goto _,ki,k,di,kd,s,hk,hd,h => by simp [evD] at h
 | .refuse _,ki,k,di,kd,s,hk,hd,h => by simp [evD] at h
theorem b7D (hf:M6 rfi rf) (hb:a3m rbi rb) {X:DefX} {v:SVal} {s:St} {ki:St → Option R} {k:Nat → St → Option R} {r:R} (hk:∀ s',ki s' = some r → Evt fun n => k n s' = some r)
  (h:b2X (T.cx rfi rbi) X v s ki = some r):Evt fun n => b2X (T.cx (rf n) (rb n)) X v s (k n) = some r:=by
 unfold b2X at h ⊢
 split at h
 case h_2 => cases h
 rename_i id ops rest hc
 split at h
 case h_2 => cases h
 rename_i o r' hops
 split at h
 case h_2 => cases h
 split at h
 case h_2 => cases h
 refine a2Q hf (k:=fun n s' => match (n7 rest).bind X.H.tk with
  | some _ => none
  | none => ev (T.cx (rf n) (rb n)) X.H rest s' fun e s2 => match e with
    | .norm => k n s2
    | .ret => k n s2
    | _ => none) (p:=fun _ _ _ _ _ => none) (fun s' h' => ?_) (fun _ _ _ _ h => by cases h) _ _ h
 cases hκ:(n7 rest).bind X.H.tk with
 | some κ => simp only [hκ] at h'; cases h'
 | none =>
   simp only [hκ] at h' ⊢
   refine N5 hf hb rest _ (fun n e s2 => match e with
    | .norm => k n s2
    | .ret => k n s2
    | _ => none) s' (fun e s2 h2 => ?_) h'
   cases e with
   | norm => exact hk _ h2
   | ret => exact hk _ h2
   | out id => cases h2
   | pan t j m => cases h2
theorem b4K (hf:M6 rfi rf) (hb:a3m rbi rb) {X:DefX} {v:SVal} {s:St} {ki:St → Option R} {k:Nat → St → Option R} {r:R} (hk:∀ s',ki s' = some r → Evt fun n => k n s' = some r)
  (h:a0i (T.cx rfi rbi) X v s ki = some r):Evt fun n => a0i (T.cx (rf n) (rb n)) X v s (k n) = some r:=by
 unfold a0i at h ⊢
 split at h
 case h_2 => cases h
 rename_i f xs ys hl
 cases hb2:(Nat.beq f X.f && (Nat.ble (xs.length + ys.length) X.n && o5 [] X.n X.c)) with
 | false => rw [hb2] at h; cases h
 | true =>
   rw [hb2] at h
   simp only [cond_true] at h ⊢
   exact b7D hf hb (k:=fun n s' => k n { s' with env:=Y3 s.env X.rs }) (fun s' h' => hk _ h') h
theorem c4E (rf rf':T.RF) (rb rb':T.RB) (φ:Nat) (rs:List ResultVar) (s:St):a3P (T.cx rf rb) φ rs s = a3P (T.cx rf' rb') φ rs s:=by
 unfold a3P
 rw [a1s rf rf' rb rb']
theorem b0A (hf:M6 rfi rf) (hb:a3m rbi rb) {H:Hn} {φ m:Nat} {c:Code} {rs:List ResultVar} {X:DefX} {d:(T.kin φ).ct.denote} {y:(H4 (T.kouts φ)).denote}
  (h:b0z (T.cx rfi rbi) H φ m c rs X d = some y):Evt fun n => b0z (T.cx (rf n) (rb n)) H φ m c rs X d = some y:=by
 unfold b0z at h ⊢
 have ho:∀ n,a3P (T.cx (rf n) (rb n)) φ rs = a3P (T.cx rfi rbi) φ rs:=fun n => funext fun s => c4E _ _ _ _ _ _ _
 have he:∀ (v:SVal) (s:St),a0i (T.cx rfi rbi) X v s (a3P (T.cx rfi rbi) φ rs) = some y → Evt fun n => a0i (T.cx (rf n) (rb n)) X v s (a3P (T.cx (rf n) (rb n)) φ rs) = some y :=
  fun v s h => b4K hf hb (k:=fun n => a3P (T.cx (rf n) (rb n)) φ rs) (fun s' h' => Evt.all fun n => by rw [ho n]; exact h') h
 dsimp only [Tb.cx] at h ⊢
 refine b1D hf hb c _ _ _ _ _ (fun e s' h' => ?_) (fun e s' h' => ?_) h
 · cases e with
   | out id => cases h'
   | pan t j m => exact Evt.all fun n => h'
   | norm => exact Evt.all fun n => (congrFun (ho n) s').trans h'
   | ret => exact Evt.all fun n => (congrFun (ho n) s').trans h'
 · cases e with
   | out id => cases h'
   | pan t j m => exact he _ _ h'
   | norm => exact he _ _ h'
   | ret => exact he _ _ h'
end Go.Bm
end
section
open Bool (and_eq_true)
namespace Go.Bm
set_option linter.unusedVariables false
set_option linter.unusedSimpArgs false
def cut:List Bool → Code → Option Code
 | [],c => some c
 | b :: p,.seq x y => match b with
   | true => Bm.cut p y
   | false => Bm.cut p x
 | b :: p,.cond _ x y => match b with
   | true => Bm.cut p y
   | false => Bm.cut p x
 | _ :: p,.block _ c => Bm.cut p c
 | _ :: p,.loop c => Bm.cut p c
 | _,_ => none
def a3n:Code → BCode
 | .block id (.loop c) => .loop id c
 | c => .tail c
structure Tbl extends Tb where
 lk:Nat → Nat → Option Nat
 tk:Nat → Nat → Option Nat
 dk:Nat → Nat → Option (List Nat × OrdT)
 al:Nat → Option Nat
 fnum:Nat → Nat
 fn:Nat → Option Func
 place:Nat → Option (Nat × List Bool)
 xf:toTb.RF
 df:Nat → Option (Nat × List Nat × Nat):=fun _ => none
def Tbl.hn (T:Tbl) (φ:Nat):Hn:=⟨T.lk φ,T.tk φ,T.dk φ,T.al⟩
def Tbl.c0h (T:Tbl) (x:Nat × List Nat × Nat):Option DefX:=match T.fn x.2.2 with
 | some fn => match fn.body with
   | some c => some ⟨x.1,x.2.1,T.fnum x.2.2,fn.ntmps,c,T.hn x.2.2⟩
   | none => none
 | none => none
noncomputable def Tbl.a2H (T:Tbl) (rf:T.RF) (rb:T.RB):T.RF:=fun f d => match T.fn f with
 | some fn => match fn.body with
   | some c => match T.df f with
     | none => b7B (T.cx rf rb) (T.hn f) f c fn.results.toList d
     | some x => match T.c0h x with
       | some X => b0z (T.cx rf rb) (T.hn f) f fn.ntmps c fn.results.toList X d
       | none => none
   | none => none
 | none => T.xf f d
def Tbl.a7S (T:Tbl) (κ:Nat):Option (Nat × Code):=match T.place κ with
 | some (f,p) => match T.fn f with
   | some fn => match fn.body with
     | some c => match Bm.cut p c with
       | some c' => some (f,c')
       | none => none
     | none => none
   | none => none
 | none => none
noncomputable def Tbl.a0R (T:Tbl) (rf:T.RF) (rb:T.RB):T.RB:=fun κ d => match T.a7S κ with
 | some (f,c) => a7W (T.cx rf rb) (T.hn f) κ (a3n c) d
 | none => none
noncomputable def Tbl.F (T:Tbl):Nat → T.RF × T.RB
 | 0 => (fun _ _ => none,fun _ _ => none)
 | n + 1 => (T.a2H (T.F n).1 (T.F n).2,T.a0R (T.F n).1 (T.F n).2)
noncomputable def lim {A:Type} (g:Nat → Option A):Option A:=by
 classical exact if h:∃ y,Evt fun n => g n = some y then some h.choose else none
theorem a8E {A:Type} {g:Nat → Option A} {y:A} (h:lim g = some y):Evt fun n => g n = some y:=by
 unfold lim at h
 split at h
 · rename_i hh; cases h; exact hh.choose_spec
 · cases h
theorem c0S {A:Type} {g:Nat → Option A} {y:A} (h:Evt fun n => g n = some y):lim g = some y:=by
 have hh:∃ y,Evt fun n => g n = some y:=⟨y,h⟩
 unfold lim
 rw [dif_pos hh]
 obtain ⟨N,h⟩:=h
 obtain ⟨M,k⟩:=hh.choose_spec
 have h1:g (max N M) = some y:=h (max N M) (by omega)
 have h2:g (max N M) = some hh.choose:=k (max N M) (by omega)
 rw [← h1,← h2]
noncomputable def Tbl.rf (T:Tbl):T.RF:=fun f d => lim fun n => (T.F n).1 f d
noncomputable def Tbl.rb (T:Tbl):T.RB:=fun κ d => lim fun n => (T.F n).2 κ d
theorem Tbl.c1a (T:Tbl):M6 T.rf fun n => (T.F n).1:=fun f d y h => a8E h
theorem Tbl.c0Z (T:Tbl):a3m T.rb fun n => (T.F n).2:=fun κ d y h => a8E h
theorem Evt.shift {A:Type} {g:Nat → Option A} {y:A} (h:Evt fun n => g (n + 1) = some y):Evt fun n => g n = some y:=by
 obtain ⟨N,h⟩:=h
 refine ⟨N + 1,fun n hn => ?_⟩
 have:g (n - 1 + 1) = some y:=h (n - 1) (by omega)
 rw [show n - 1 + 1 = n by omega] at this
 exact this
theorem Tbl.d0G (T:Tbl) {f:Nat} {d:(T.kin f).ct.denote} {y:(H4 (T.kouts f)).denote} (h:T.a2H T.rf T.rb f d = some y):T.rf f d = some y:=by
 refine c0S (Evt.shift ?_)
 show Evt fun n => T.a2H (T.F n).1 (T.F n).2 f d = some y
 unfold Tbl.a2H at h ⊢
 cases hf:T.fn f with
 | none => simp only [hf] at h ⊢; exact Evt.all fun n => h
 | some fn =>
   simp only [hf] at h ⊢
   cases hc:fn.body with
   | none => rw [hc] at h; cases h
   | some c =>
     simp only [hc] at h ⊢
     cases hd:T.df f with
     | none => simp only [hd] at h ⊢; exact b2W T.c1a T.c0Z h
     | some x =>
       simp only [hd] at h ⊢
       cases hx:T.c0h x with
       | none => rw [hx] at h; cases h
       | some X => simp only [hx] at h ⊢; exact b0A T.c1a T.c0Z h
theorem Tbl.d0z (T:Tbl) {κ:Nat} {d:(T.bk κ).ins.ct.denote} {y:(H0 (T.bk κ).exits).denote} (h:T.a0R T.rf T.rb κ d = some y):T.rb κ d = some y:=by
 refine c0S (Evt.shift ?_)
 show Evt fun n => T.a0R (T.F n).1 (T.F n).2 κ d = some y
 unfold Tbl.a0R at h ⊢
 cases hc:T.a7S κ with
 | none => rw [hc] at h; cases h
 | some p => simp only [hc] at h ⊢; exact b0y T.c1a T.c0Z h
def c0w:Option (Nat × List Bool) → Nat → List Bool → Bool
 | some (g,q),f,p => Nat.beq g f && (q == p)
 | none,_,_ => false
def a4i (ops:Array Oper):List (List Nat):=ops.toList.map fun o => (o.after.toList.filter fun e => Region.binds .any e).map (·.on)
def b2L (ops:Array Oper):List (List Nat):=(List.range ops.size).map fun i => match ops[i]? with
 | some oi => (List.range ops.size).filter fun j => !(j == i || (match ops[j]? with
    | some oj => oj.after.any (fun e => Region.binds .any e && e.on == i) || oi.apart ops oj
    | none => true))
 | none => []
def allM (m:Nat) (o:Option (List Nat)):Bool:=match o with
 | some l => l.all fun j => m.testBit j
 | none => false
def b2g (D:List (List Nat)) (m i:Nat):Bool:=!m.testBit i && allM m (nth D i)
def b1g (D:List (List Nat)) (n m:Nat):List Nat:=(List.range n).filter fun i => b2g D m i
def a5J (N:Nat) (D B:List (List Nat)):Bool → Nat → Nat → OrdT → Bool
 | m,_,l,.done => m && (b1g D N l).isEmpty
 | m,n + 1,l,.take i t => m && (allM l (nth B i) && (b2g D l i && a5J N D B true n (l ||| 2 ^ i) t))
 | m,n + 1,l,.only i t => Nat.blt i N && ((!m || (b2g D l i && (b1g D N l).all fun j => Nat.beq j i)) && a5J N D B true n (l ||| 2 ^ i) t)
 | m,n + 1,l,.alt i t r => Nat.blt i N && ((!m || (b2g D l i && (b1g D N l).all fun j => has (a8f (.alt i t r)) j)) && (a5J N D B true n (l ||| 2 ^ i) t && a5J N D B false (n + 1) l r))
 | _,0,_,_ => false
structure BitsM (n:Nat) (listed:Array Bool) (m:Nat):Prop where
 size:listed.size = n
 t:∀ i,listed.getD i true = (m.testBit i || decide (n ≤ i))
 f:∀ i,listed.getD i false = m.testBit i
theorem BitsM.zero (n:Nat):BitsM n (Array.replicate n false) 0 :=
 ⟨by simp,fun i => by by_cases h:i < n <;> simp [Array.getD,h] <;> omega,fun i => by by_cases h:i < n <;> simp [Array.getD,h]⟩
theorem BitsM.set {n:Nat} {listed:Array Bool} {m:Nat} (h:BitsM n listed m) {i:Nat} (hi:i < n):BitsM n (listed.setIfInBounds i true) (m ||| 2 ^ i):=by
 have hs:=h.size
 refine ⟨by simp [hs],fun j => ?_,fun j => ?_⟩
 · have ht:=h.t j
   rw [Nat.testBit_or,Nat.testBit_two_pow]
   by_cases hj:i = j
   · subst hj
     simp [Array.getD,hs,hi]
   · rw [decide_eq_false hj,Bool.or_false,← ht]
     by_cases hjn:j < n <;> simp [Array.getD,hs,hjn,Array.getElem_setIfInBounds,hj]
 · have hf:=h.f j
   rw [Nat.testBit_or,Nat.testBit_two_pow]
   by_cases hj:i = j
   · subst hj
     simp [Array.getD,hs,hi]
   · rw [decide_eq_false hj,Bool.or_false,← hf]
     by_cases hjn:j < n <;> simp [Array.getD,hs,hjn,Array.getElem_setIfInBounds,hj]
theorem b0X (ops:Array Oper) (i:Nat):nth (a4i ops) i = (ops[i]?).map fun o => (o.after.toList.filter fun e => Region.binds .any e).map (·.on):=by
 rw [nth_getElem?,a4i,List.getElem?_map,Array.getElem?_toList]
theorem c5O {ops:Array Oper} {listed:Array Bool} {m:Nat} (h:BitsM ops.size listed m) {i:Nat} (hi:i < ops.size) :
  (!listed.getD i true && ((ops[i]?).map (·.after.all fun e => !Region.binds .any e || listed.getD e.on false)).getD false) = b2g (a4i ops) m i:=by
 unfold b2g
 rw [h.t i,decide_eq_false (by omega),Bool.or_false,b0X]
 congr 1
 cases ho:ops[i]? with
 | none => rfl
 | some o =>
   simp only [Option.map_some,Option.getD_some,allM]
   rw [← Array.all_toList,List.all_map,List.all_filter]
   apply List.all_congr rfl
   intro e
   simp only [Function.comp,h.f]
theorem a3b {ops:Array Oper} {listed:Array Bool} {m:Nat} (h:BitsM ops.size listed m):Region.ready .any ops listed = b1g (a4i ops) ops.size m:=by
 unfold Region.ready b1g
 apply List.filter_congr
 intro i hi
 exact c5O h (List.mem_range.1 hi)
theorem b6z {ops:Array Oper} {m i:Nat} (h:b2g (a4i ops) m i = true):i < ops.size:=by
 unfold b2g at h
 rw [and_eq_true,b0X] at h
 cases ho:ops[i]? with
 | none => rw [ho] at h; exact absurd (show false = true from h.2) (by decide)
 | some o => exact (Array.getElem?_eq_some_iff.1 ho).1
theorem a8Y {ops:Array Oper} {m i:Nat} (h:b2g (a4i ops) m i = true):(b1g (a4i ops) ops.size m).contains i = true:=by
 rw [List.contains_iff_mem]
 exact List.mem_filter.2 ⟨List.mem_range.2 (b6z h),h⟩
theorem d6s {ops:Array Oper} {listed:Array Bool} {m i:Nat} (h:BitsM ops.size listed m) (hi:i < ops.size) (hb:allM m (nth (b2L ops) i) = true):Region.free .any ops listed i = true:=by
 have hn:nth (b2L ops) i = some (match ops[i]? with
   | some oi => (List.range ops.size).filter fun j => !(j == i || (match ops[j]? with
      | some oj => oj.after.any (fun e => Region.binds .any e && e.on == i) || oi.apart ops oj
      | none => true))
   | none => []):=by
  rw [nth_getElem?,b2L,List.getElem?_map,List.getElem?_range hi]; rfl
 rw [hn] at hb
 have ho:ops[i]? = some ops[i]:=Array.getElem?_eq_getElem hi
 unfold Region.free
 rw [ho] at hb ⊢
 simp only [allM,List.all_eq_true] at hb
 simp only [List.all_eq_true]
 intro j hj
 cases hx:(j == i || listed.getD j true || match ops[j]? with
  | some oj => oj.after.any (fun e => Region.binds .any e && e.on == i) || ops[i].apart ops oj
  | none => true) with
 | true => rfl
 | false =>
   simp only [Bool.or_eq_false_iff] at hx
   have h2:=hb j (List.mem_filter.2 ⟨hj,by
    simp only [Bool.not_eq_true',Bool.or_eq_false_iff]
    exact ⟨hx.1.1,hx.2⟩⟩)
   rw [h.t j,h2,Bool.true_or] at hx
   exact absurd hx.1.2 (by decide)
theorem a0N {ops:Array Oper}:∀ (t:OrdT) (b:Bool) (n:Nat) (listed:Array Bool) (m:Nat),BitsM ops.size listed m → a5J ops.size (a4i ops) (b2L ops) b n m t = true → Q5 ops b n listed t = true
 | .done,b,n,listed,m,h,ho => by
   cases n <;> (simp only [a5J,Q5,a3b h] at ho ⊢; exact ho)
 | .take i t,b,0,listed,m,h,ho => by simp [a5J] at ho
 | .only i t,b,0,listed,m,h,ho => by simp [a5J] at ho
 | .alt i t r,b,0,listed,m,h,ho => by simp [a5J] at ho
 | .take i t,b,n + 1,listed,m,h,ho => by
   simp only [a5J,and_eq_true] at ho
   have hi:=b6z ho.2.2.1
   simp only [Q5,and_eq_true]
   exact ⟨ho.1,d6s h hi ho.2.1,by rw [a3b h]; exact a8Y ho.2.2.1,a0N t true n _ _ (h.set hi) ho.2.2.2⟩
 | .only i t,b,n + 1,listed,m,h,ho => by
   simp only [a5J,and_eq_true,Bool.or_eq_true] at ho
   simp only [Q5,and_eq_true,Bool.or_eq_true,a3b h]
   have hi:i < ops.size:=by have:=ho.1; rw [Nat.blt_eq] at this; exact this
   exact ⟨ho.2.1.imp id fun g => ⟨a8Y g.1,g.2⟩,a0N t true n _ _ (h.set hi) ho.2.2⟩
 | .alt i t r,b,n + 1,listed,m,h,ho => by
   simp only [a5J,and_eq_true,Bool.or_eq_true] at ho
   simp only [Q5,and_eq_true,Bool.or_eq_true,a3b h]
   have hi:i < ops.size:=by have:=ho.1; rw [Nat.blt_eq] at this; exact this
   exact ⟨ho.2.1.imp id fun g => ⟨a8Y g.1,g.2⟩,a0N t true n _ _ (h.set hi) ho.2.2.1,a0N r false (n + 1) _ _ h ho.2.2.2⟩
def N7 (T:Tbl) (f n:Nat):(p:List Bool) → Code → Bool
 | p,.seq a b => N7 T f n (p ++ [false]) a && (match (n7 b).bind (T.tk f) with
   | some κ => c0w (T.place κ) f (p ++ [true]) && ((T.bk κ).keep.all fun t => o5 [t] n b)
   | none => N7 T f n (p ++ [true]) b)
 | p,.block id c => match T.lk f id with
   | some κ => c0w (T.place κ) f p && ((T.bk κ).keep.all fun t => o5 [t] n c)
   | none => N7 T f n (p ++ [false]) c
 | _,.region id ops true => match T.dk f id with
   | some (_,t) => Region.noSelect ops && a5J ops.size (a4i ops) (b2L ops) true ops.size 0 t
   | none => true
 | p,.cond _ a b => N7 T f n (p ++ [false]) a && N7 T f n (p ++ [true]) b
 | p,.loop c => N7 T f n (p ++ [false]) c
 | _,_ => true
def fnB (T:Tbl) (f:Nat) (fn:Func) (c:Code):Bool :=
 Nat.ble (T.kin f).slots.length fn.ntmps && (o5 [] fn.ntmps c && N7 T f fn.ntmps [] c)
def c3d (T:Tbl) (κ f:Nat) (fn:Func) (p:List Bool) (c:Code):Bool :=
 match a3n c with
 | .loop _ b => o5 [] fn.ntmps b && (N7 T f fn.ntmps (p ++ [false,false]) b && (match T.al κ with
   | some κ2 => c0w (T.place κ2) f p && (T.bk κ2).keep.all fun t => o5 [t] fn.ntmps b
   | none => true))
 | .tail c => o5 [] fn.ntmps c && N7 T f fn.ntmps p c
structure Tbl.Ok (P:Program) (T:Tbl):Prop where
 tab:c5U P T.tab
 eqt:∀ t fs zs,T.eqt t = true → T.tab t = some (.struct fs zs) → d1c P t zs
 mt:∀ t name f how,T.mt t name = some (f,how) → b4t P t name f how
 mixed:P.follows .mixedOrders = true
 gpm:a5f T.gp
 gvo:∀ w Φ,T.gp w Φ → GvR T.gv w Φ
 keys:∀ f φ,φ ∈ T.keys f → T.fnum φ = f
 fn : ∀ φ fn, T.fn φ = some fn → P.funcs[T.fnum φ]? = some fn ∧ (fn.name == "runtime.NumGoroutine") = false ∧ ∃ c, fn.body = some c ∧ fnB T φ fn c = true
 dfr:∀ φ x fn,T.df φ = some x → T.fn x.2.2 = some fn → fn.results.toList = []
 blk:∀ κ f p fn c c',T.place κ = some (f,p) → T.fn f = some fn → fn.body = some c → Bm.cut p c = some c' → c3d T κ f fn p c' = true
 ext : ∀ φ d y, T.fn φ = none → T.xf φ d = some y → (∃ fn : Func, P.funcs[T.fnum φ]? = some fn ∧ (fn.name == "runtime.NumGoroutine") = false ∧ fn.body.isNone = false) ∧
  ∀ (w:World) (Φ:Nat → Prop) (vs:List Value) (γ:Loc),T.gp w Φ → InstR w Φ (T.kin φ) (l8 (T.kin φ).cts d) vs γ →
   Calls P (T.fnum φ) vs.toArray w fun e w' => ∃ Φ' γ' rs,O9 (fun T' ds' => e = T'.ending rs ∧ InstR w' Φ' T' ds' rs γ' ∧ PostR w Φ γ (T.kin φ) (l8 (T.kin φ).cts d) w' Φ' γ' T' ds') (T.kouts φ) y
theorem S8:∀ (p q:List Bool) (c:Code),Bm.cut (p ++ q) c = (Bm.cut p c).bind (Bm.cut q)
 | [],q,c => rfl
 | b :: p,q,c => by
   cases c <;> first | rfl | (cases b <;> exact S8 p q _) | exact S8 p q _
section
variable {P:Program} {T:Tbl} (hT:T.Ok P)
structure Tbl.At (P:Program) (T:Tbl) (n:Nat):Prop where
 all:AllOk P (T.cx (T.F n).1 (T.F n).2)
 blk:∀ κ f p fn c c',T.place κ = some (f,p) → T.fn f = some fn → fn.body = some c → Bm.cut p c = some c' → match a3n c' with
  | .loop id b => b2C (T.cx (T.F n).1 (T.F n).2) fn.ntmps κ c' fun Q a w => Code.rounds P b (Exit.inBlock id Q) n a w
  | .tail c => a7t P (T.cx (T.F n).1 (T.F n).2) fn.ntmps κ c'
theorem a7K {c b:Code} {id:Nat} (h:a3n c = .loop id b):c = .block id (.loop b):=by
 unfold a3n at h
 split at h
 · cases h; rfl
 · cases h
theorem b4E {c b:Code} (h:a3n c = .tail b):c = b:=by
 unfold a3n at h
 split at h
 · cases h
 · cases h; rfl
theorem Tbl.At.c5W {n:Nat} (h:T.At P n) {κ f:Nat} {p:List Bool} {fn:Func} {c c':Code} (h1:T.place κ = some (f,p)) (h2:T.fn f = some fn) (h3:fn.body = some c) (h4:Bm.cut p c = some c') :
  a7t P (T.cx (T.F n).1 (T.F n).2) fn.ntmps κ c':=by
 have:=h.blk κ f p fn c c' h1 h2 h3 h4
 cases hb:a3n c' with
 | tail b => rw [hb] at this; exact this
 | loop id b =>
   rw [hb] at this
   have e:=a7K hb
   intro d y hy w Φ a bs fix D k1 k2 k3 k4 k5 k6
   have g:=this d y hy w Φ a bs fix D k1 k2 k3 k4 k5 k6
   rw [e]
   exact wp_block (wp_loop_rounds n g)
theorem a5E {o:Option (Nat × List Bool)} {f:Nat} {p:List Bool} (h:c0w o f p = true):o = some (f,p):=by
 cases o with
 | none => cases h
 | some x =>
   obtain ⟨g,q⟩:=x
   simp only [c0w,and_eq_true] at h
   rw [Nat.eq_of_beq_eq_true h.1,eq_of_beq h.2]
theorem I3 {n:Nat} (h:T.At P n) {f:Nat} {fn:Func} {c0:Code} (h2:T.fn f = some fn) (h3:fn.body = some c0):∀ (c:Code) (p:List Bool),Bm.cut p c0 = some c → N7 T f fn.ntmps p c = true →
  Hints P (T.cx (T.F n).1 (T.F n).2) fn.ntmps (T.hn f) c
 | .seq a b,p,hs,hb => by
   simp only [N7,and_eq_true] at hb
   have sa:Bm.cut (p ++ [false]) c0 = some a:=by rw [S8,hs]; rfl
   have sb:Bm.cut (p ++ [true]) c0 = some b:=by rw [S8,hs]; rfl
   refine ⟨I3 h h2 h3 a _ sa hb.1,?_⟩
   have hb2:=hb.2
   show (match (n7 b).bind (T.tk f) with
    | some κ => a7t P (T.cx (T.F n).1 (T.F n).2) fn.ntmps κ b ∧ ∀ t ∈ (T.bk κ).keep,o5 [t] fn.ntmps b = true
    | none => Hints P (T.cx (T.F n).1 (T.F n).2) fn.ntmps (T.hn f) b)
   cases hκ:(n7 b).bind (T.tk f) with
   | some κ =>
     rw [hκ] at hb2
     simp only [and_eq_true] at hb2
     exact ⟨h.c5W (a5E hb2.1) h2 h3 sb,fun t ht => List.all_eq_true.1 hb2.2 t ht⟩
   | none =>
     rw [hκ] at hb2
     exact I3 h h2 h3 b _ sb hb2
 | .block id c,p,hs,hb => by
   simp only [N7] at hb
   show (match T.lk f id with
    | some κ => a7t P (T.cx (T.F n).1 (T.F n).2) fn.ntmps κ (.block id c) ∧ ∀ t ∈ (T.bk κ).keep,o5 [t] fn.ntmps c = true
    | none => Hints P (T.cx (T.F n).1 (T.F n).2) fn.ntmps (T.hn f) c)
   cases hκ:T.lk f id with
   | some κ =>
     rw [hκ] at hb
     simp only [and_eq_true] at hb
     exact ⟨h.c5W (a5E hb.1) h2 h3 hs,fun t ht => List.all_eq_true.1 hb.2 t ht⟩
   | none =>
     rw [hκ] at hb
     exact I3 h h2 h3 c _ (by rw [S8,hs]; rfl) hb
 | .cond _ a b,p,hs,hb => by
   simp only [N7,and_eq_true] at hb
   exact ⟨I3 h h2 h3 a _ (by rw [S8,hs]; rfl) hb.1,I3 h h2 h3 b _ (by rw [S8,hs]; rfl) hb.2⟩
 | .loop c,p,hs,hb => I3 h h2 h3 c _ (by rw [S8,hs]; rfl) hb
 | .region id ops true,p,hs,hb => by
   simp only [N7] at hb
   intro slots t ht
   have ht':T.dk f id = some (slots,t):=ht
   rw [ht'] at hb
   simp only [and_eq_true] at hb
   exact ⟨hb.1,a0N t true _ _ _ (BitsM.zero _) hb.2⟩
 | .skip,_,_,_ => trivial
 | .region _ _ false,_,_,_ => trivial
 | .exit _,_,_,_ => trivial
 | .ret,_,_,_ => trivial
 | .rangeFunc _ _ _ _,_,_,_ => trivial
 | .scope _,_,_,_ => trivial
 | .label _,_,_,_ => trivial
 | .goto _,_,_,_ => trivial
 | .refuse _,_,_,_ => trivial
include hT in
theorem Tbl.at:∀ n,T.At P n
 | 0 => ⟨⟨⟨hT.mt,hT.tab,hT.eqt⟩,fun f φ _ d y h => (by cases h),hT.mixed,hT.gpm,hT.gvo⟩,fun κ f p fn c c' _ _ _ _ => by
    cases a3n c' with
    | tail b => intro d y h; cases h
    | loop id b => intro d y h; cases h⟩
 | n + 1 => by
   have ih:=Tbl.at n
   have hokn:AllOk P (T.cx (T.F n).1 (T.F n).2):=ih.all
   refine ⟨⟨⟨hT.mt,hT.tab,hT.eqt⟩,fun f φ hφ d y h => ?_,hT.mixed,hT.gpm,hT.gvo⟩,fun κ f p fn c c' h1 h2 h3 h4 => ?_⟩
   · change T.a2H (T.F n).1 (T.F n).2 φ d = some y at h
     have hfe:=hT.keys f φ hφ
     subst hfe
     unfold Tbl.a2H at h
     cases hf:T.fn φ with
     | none => rw [hf] at h; exact hT.ext φ d y hf h
     | some fn =>
       obtain ⟨k1,k2,c,k3,k4⟩:=hT.fn φ fn hf
       simp only [hf,k3] at h
       simp only [fnB,and_eq_true] at k4
       refine ⟨⟨fn,k1,k2,by rw [k3]; rfl⟩,?_⟩
       cases hd:T.df φ with
       | none => rw [hd] at h; exact c0r hokn k1 k3 (Nat.le_of_ble_eq_true k4.1) k4.2.1 (I3 ih hf k3 c [] rfl k4.2.2) d y h
       | some x =>
         rw [hd] at h
         simp only at h
         cases hx:T.c0h x with
         | none => rw [hx] at h; cases h
         | some X =>
           rw [hx] at h
           have hx0:=hx
           unfold Tbl.c0h at hx
           cases hf2:T.fn x.2.2 with
           | none => rw [hf2] at hx; cases hx
           | some fn2 =>
             obtain ⟨m1,m2,c2,m3,m4⟩:=hT.fn _ fn2 hf2
             simp only [hf2,m3] at hx
             cases hx
             simp only [fnB,and_eq_true] at m4
             exact b7F hokn k1 k3 (Nat.le_of_ble_eq_true k4.1) k4.2.1 (I3 ih hf k3 c [] rfl k4.2.2) m1 m2 m3 rfl (hT.dfr φ x fn2 hd hf2) (I3 ih hf2 m3 c2 [] rfl m4.2.2) d y h
   · have hB:=hT.blk κ f p fn c c' h1 h2 h3 h4
     have hca:T.a7S κ = some (f,c'):=by simp only [Tbl.a7S,h1,h2,h3,h4]
     unfold c3d at hB
     cases hb:a3n c' with
     | tail b =>
       rw [hb] at hB
       simp only [and_eq_true] at hB
       have e:=b4E hb
       subst e
       intro d y hy w Φ a γ fix D k1 k2 k3 k4 k5 k6
       change T.a0R (T.F n).1 (T.F n).2 κ d = some y at hy
       simp only [Tbl.a0R,hca,hb] at hy
       exact b5L hokn hB.1 (I3 ih h2 h3 c' p h4 hB.2) hy k1 k2 k3 k4 k5 k6
     | loop id b =>
       rw [hb] at hB
       simp only [and_eq_true] at hB
       have e:=a7K hb
       intro d y hy w Φ a γ fix D k1 k2 k3 k4 k5 k6
       change T.a0R (T.F n).1 (T.F n).2 κ d = some y at hy
       simp only [Tbl.a0R,hca,hb] at hy
       have ihl:=ih.blk κ f p fn c c' h1 h2 h3 h4
       rw [hb] at ihl
       have k1':∀ t v,fix t = some v → o5 [t] fn.ntmps b = true:=fun t v hv => by have:=k1 t v hv; rw [e] at this; exact this
       refine b5e hokn hB.1 (I3 ih h2 h3 b (p ++ [false,false]) (by rw [S8,h4,e]; rfl) hB.2.1) (fun d' y' hy' w' Φ' a' γ' fix' D' g1 => ihl d' y' hy' w' Φ' a' γ' fix' D' (fun t v hv => by rw [e]; exact g1 t v hv)) (fun κ2 hκ2 => ?_) hy k1' k2 k3 k4 k5 k6
       have hκ2':T.al κ = some κ2:=hκ2
       have h6:=hB.2.2
       rw [hκ2'] at h6
       simp only [and_eq_true] at h6
       have ih2:=ih.blk κ2 f p fn c c' (a5E h6.1) h2 h3 h4
       rw [hb] at ih2
       exact ⟨fun d' y' hy' w' Φ' a' γ' fix' D' g1 => ih2 d' y' hy' w' Φ' a' γ' fix' D' (fun t v hv => by rw [e]; exact g1 t v hv),fun t ht => List.all_eq_true.1 h6.2 t ht⟩
include hT in
theorem Tbl.sound {φ f:Nat} {d:(T.kin φ).ct.denote} {y:(H4 (T.kouts φ)).denote} (h:T.rf φ d = some y) (hφ:φ ∈ T.keys f)
  {w:World} {Φ:Nat → Prop} {vs:List Value} {γ:Loc} (hg:T.gp w Φ) (h1:InstR w Φ (T.kin φ) (l8 (T.kin φ).cts d) vs γ) :
  Calls P f vs.toArray w fun e w' => ∃ Φ' γ' rs,O9 (fun T' ds' => e = T'.ending rs ∧ InstR w' Φ' T' ds' rs γ' ∧ PostR w Φ γ (T.kin φ) (l8 (T.kin φ).cts d) w' Φ' γ' T' ds') (T.kouts φ) y:=by
 obtain ⟨N,hN⟩:=a8E h
 exact ((Tbl.at hT N).all.fn f φ hφ d y (hN N (Nat.le_refl _))).2 w Φ vs γ hg h1
end
end Go.Bm
end
