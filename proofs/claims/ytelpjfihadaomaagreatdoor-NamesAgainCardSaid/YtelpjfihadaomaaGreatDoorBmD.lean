import Derived.Test.YtelpjfihadaomaaGreatDoorBmC
import Derived.Laws.BytesArg
import Derived.Lib.ConvBytes
import Derived.MapKept
open Bool (and_eq_true)
section
namespace Go.Bm
set_option linter.unusedVariables false
set_option linter.unusedSimpArgs false
section
variable {P:Program} {R:Type} {w0:World} {Φ0 own0:Nat → Prop} {N:Frm} {w:World} {Φ:Nat → Prop} {β:Loc} {s:St} {a:Act}
variable {cx:Cx} {o:Oper} {next:Act → World → Prop} {Q:Exit → Act → World → Prop} {k:St → Option R} {r:R}
theorem b5B (hcx:CxOk P cx) (hr:Rel w0 Φ0 own0 N w Φ β s a) (hN:∀ d,o.dst = some d → N.ok d) (hk:∀ s' a' w' Φ' β',Rel w0 Φ0 own0 N w' Φ' β' s' a' → k s' = some r → next a' w')
  {c:Call} (ho:o.op = .call c) (hc:c.callee = .builtin .clear) (h:j6 cx o s k = some r):o.wp P a w next Q:=by
 simp only [j6,ho,hc] at h
 split at h
 case h_2 => cases h
 split at h
 · cases h
 · cases h
theorem Flat.take {e:CT} {l:List e.denote} {vs:List Value} (h:Flat w Φ e l vs) (n:Nat):Flat w Φ e (l.take n) (vs.take (min l.length n * e.size)):=by
 refine ⟨?_,fun v hv => h.2.1 v (List.mem_of_mem_take hv),fun i x hx => ?_⟩
 · have:min l.length n * e.size ≤ vs.length:=by rw [h.1]; exact Nat.mul_le_mul_right _ (Nat.min_le_left _ _)
   rw [List.length_take,Nat.min_eq_left this,List.length_take,Nat.min_comm n]
 · rw [nth_getElem?,List.getElem?_take] at hx
   split at hx
   case isFalse => cases hx
   rename_i hi
   have hil:i < l.length:=(List.getElem?_eq_some_iff.1 hx).1
   have h2:=h.2.2 i x (by rw [nth_getElem?]; exact hx)
   have h3:(i + 1) * e.size ≤ min l.length n * e.size:=Nat.mul_le_mul_right _ (by omega)
   rw [Nat.add_mul] at h3
   rw [List.drop_take,List.take_take,Nat.min_eq_left (by omega)]
   exact h2
theorem b8z (hcx:CxOk P cx) (hr:Rel w0 Φ0 own0 N w Φ β s a) (hN:∀ d,o.dst = some d → N.ok d) (hk:∀ s' a' w' Φ' β',Rel w0 Φ0 own0 N w' Φ' β' s' a' → k s' = some r → next a' w')
  {c:Call} (ho:o.op = .call c) (hc:c.callee = .builtin .copy) (h:j6 cx o s k = some r):o.wp P a w next Q:=by
 simp only [j6,ho,hc] at h
 split at h
 case h_2 => cases h
 split at h
 case h_2 => cases h
 obtain ⟨_,h⟩:=e8 h
 split at h
 · cases h
 · cases h
end
section
variable {P:Program} {R:Type} {w0:World} {Φ0 own0:Nat → Prop} {N:Frm} {w:World} {Φ:Nat → Prop} {β:Loc} {s:St} {a:Act}
variable {cx:Cx} {o:Oper} {next:Act → World → Prop} {Q:Exit → Act → World → Prop} {k:St → Option R} {r:R}
theorem b2r (hcx:CxOk P cx) (hr:Rel w0 Φ0 own0 N w Φ β s a) (hN:∀ d,o.dst = some d → N.ok d) (hk:∀ s' a' w' Φ' β',Rel w0 Φ0 own0 N w' Φ' β' s' a' → k s' = some r → next a' w')
  {t d:TypeId} {x:Operand} (ho:o.op = .convert t d x) (h:j6 cx o s k = some r):o.wp P a w next Q:=by
 have h0:=h
 simp only [j6,ho] at h
 split at h
 · rename_i td j z k' n htd hd hx
   exact (a3z hcx hr ho (by simp only [D3,ho,hx]) h0).wp hr trivial hN hk
 · rename_i td z b htd hd hx
   obtain ⟨u,hu,_⟩:=(hcx.tab t _ htd).und
   obtain ⟨sx,ex,ex'⟩:=hr.eval hx
   obtain ⟨_,dd,hdd,_,_,hi,_⟩:=hcx.tab d _ hd
   have:=hi _ rfl; subst this
   refine C0 hN hk h hr (v:=.string sx) ?_ ⟨sx,rfl,ex'⟩
   simp only [execOp,ho,ex,Sem.run_bind,convert,run_underlying hu,run_underlying hdd,Result.andThen_ok]
   cases u <;> simp
 · cases h
 · cases h
end
section
variable {P:Program} {R:Type} {w0:World} {Φ0 own0:Nat → Prop} {N:Frm} {w:World} {Φ:Nat → Prop} {β:Loc} {s:St} {a:Act} {hp:List (Nat × SObj)}
variable {cx:Cx} {o:Oper} {next:Act → World → Prop} {Q:Exit → Act → World → Prop} {k:St → Option R} {r:R}
theorem Q0 {c:CT} {d:TypeDesc} {x:c.denote} {v:Value} (h:b5a c d) (hv:VC w Φ c x [v]):MapKept.IsKey d v:=by
 cases c <;> first | exact h.elim | (cases h; cases hv; rfl) | (cases h; cases hv; trivial) | (cases h; obtain ⟨s,e,_⟩:=hv; cases e; trivial)
theorem a9k {c:CT} {d:TypeDesc} {x y:c.denote} {u v:Value} (h:b5a c d) (hu:VC w Φ c x [u]) (hv:VC w Φ c y [v]):Instr.sameNow d u v = some (c.eqK x y):=by
 cases c with
 | int k => cases h; cases hu; cases hv; simp [Instr.sameNow,CT.eqK]
 | bool => cases h; cases hu; cases hv; simp [Instr.sameNow,CT.eqK]
 | str =>
   cases h
   obtain ⟨s1,e1,h1⟩:=hu
   obtain ⟨s2,e2,h2⟩:=hv
   cases e1; cases e2
   show some (s1 == s2) = some (@BEq.beq (List UInt8) _ x y)
   congr 1
   rw [Bool.eq_iff_iff,MapKept.bytes_beq,beq_iff_eq,← h1,← h2]
   constructor
   · rintro rfl; rfl
   · intro e
     obtain ⟨⟨l1⟩⟩:=s1
     obtain ⟨⟨l2⟩⟩:=s2
     simp only at e
     rw [e]
 | _ => exact h.elim
theorem c0l {c:CT} {d:TypeDesc} {x y:c.denote} {u v:Value} (h:b5a c d) (hu:VC w Φ c x [u]) (hv:VC w Φ c y [v]) (e:c.eqK x y = true):u = v:=by
 obtain ⟨r,h1,h2⟩:=MapKept.sameNow_of_keys (Q0 h hu) (Q0 h hv)
 rw [a9k h hu hv] at h1
 cases h1
 exact h2.1 e
theorem b2n {d:TypeDesc} {v:Value} (h:MapKept.IsKey d v):Instr.sameBits 10000 v v = true:=by
 cases d <;> cases v <;> simp_all [MapKept.IsKey,Instr.sameBits,MapKept.bytes_beq]
theorem find_spec {c v:CT} {agg:Bool} {d:TypeDesc} (hd:b5a c d) {x:c.denote} {kv:Value} (hx:VC w Φ c x [kv]):∀ (l:List (c.denote × v.denote)) (es:List MapEntry) (i:Nat),a3Z w Φ c v agg l es →
  (assoc c.eqK l x = none ∧ Instr.findNow d kv es i = some none ∧ ∀ (z:v.denote) (us:List Value) (e:MapEntry),VC w Φ v z us → e.key = kv → e.val = J7 agg us → a3Z w Φ c v agg (o4 c.eqK l x z) (es ++ [e])) ∨
  ∃ y j e,assoc c.eqK l x = some y ∧ Instr.findNow d kv es i = some (some (i + j,e.val)) ∧ es[j]? = some e ∧ e.key = kv ∧ (∃ us,VC w Φ v y us ∧ e.val = J7 agg us) ∧
   ∀ (z:v.denote) (us:List Value) (f:MapEntry → MapEntry),VC w Φ v z us → (f e).key = kv → (f e).val = J7 agg us → a3Z w Φ c v agg (o4 c.eqK l x z) (es.modify j f)
 | [],es,i,h => by
   cases h
   exact .inl ⟨rfl,rfl,fun z us e h1 h2 h3 => ⟨e,[],rfl,by rw [h2]; exact hx,⟨us,h1,h3⟩,rfl⟩⟩
 | p :: l,es,i,⟨e,es',e1,e2,⟨us,e3,e4⟩,e5⟩ => by
   subst e1
   have hs:=a9k hd hx e2
   cases hb:c.eqK x p.1 with
   | true =>
     rw [hb] at hs
     have hk:kv = e.key:=c0l hd hx e2 hb
     refine .inr ⟨p.2,0,e,by simp [assoc,hb],by simp [Instr.findNow,hs],rfl,hk.symm,⟨us,e3,e4⟩,fun z us' f h1 h2 h3 => ?_⟩
     simp only [o4,hb,cond_true,List.modify_zero_cons]
     exact ⟨_,_,rfl,by rw [h2]; exact hx,⟨us',h1,h3⟩,e5⟩
   | false =>
     rw [hb] at hs
     rcases find_spec hd hx l es' (i + 1) e5 with ⟨g1,g2,g3⟩ | ⟨y,j,e',g1,g2,g3,g4,g5,g6⟩
     · refine .inl ⟨by simp [assoc,hb,g1],by simp [Instr.findNow,hs,g2],fun z us' e' h1 h2 h3 => ?_⟩
       simp only [o4,hb,cond_false,List.cons_append]
       exact ⟨_,_,rfl,e2,⟨us,e3,e4⟩,g3 z us' e' h1 h2 h3⟩
     · refine .inr ⟨y,j + 1,e',by simp [assoc,hb,g1],by simp [Instr.findNow,hs,g2]; omega,by simpa using g3,g4,g5,fun z us' f h1 h2 h3 => ?_⟩
       simp only [o4,hb,cond_false,List.modify_succ_cons]
       exact ⟨_,_,rfl,e2,⟨us,e3,e4⟩,g6 z us' f h1 h2 h3⟩
theorem a8s {c:CT} {l:Leaf} {v:Value} {x:c.denote} (h:keyOf c l = some x) (hv:LfR w Φ β hp l v):VC w Φ c x [v]:=by
 unfold keyOf at h
 split at h
 · split at h
   · rename_i e; cases h; subst e; cases hv; rfl
   · cases h
 · cases h; cases hv; rfl
 · cases h; obtain ⟨s,e,h⟩:=hv; subst e; exact ⟨s,rfl,h⟩
 · cases h
theorem b2u (hcx:CxOk P cx) (hr:Rel w0 Φ0 own0 N w Φ β s a) (hN:∀ d,o.dst = some d → N.ok d) (hk:∀ s' a' w' Φ' β',Rel w0 Φ0 own0 N w' Φ' β' s' a' → k s' = some r → next a' w')
  {t:TypeId} (ho:o.op = .makeMap t none) (h:j6 cx o s k = some r):o.wp P a w next Q:=by
 simp only [j6,ho] at h
 split at h
 case h_2 => cases h
 rename_i kt vt agg htd
 by_cases hmk:∃ e,cx.mkr t = true ∧ vt = .list e ∧ agg = false
 · obtain ⟨e,hm1,rfl,rfl⟩:=hmk
   rw [hm1] at h
   refine C0 (v:=.map (some w.heap.size)) hN hk h (hr.new (.map #[] 0) (.mrows kt e [] none) 0 ?_ ?_) (by simp [execOp,ho,Instr.makeMap]) ?_
   · rintro c ⟨hs,g,⟨_,b,es,cl,hb,hc,e1⟩,i,v,hv,_⟩
     simp only [Loc.at,if_true,Option.some.injEq,Prod.mk.injEq] at hb
     obtain ⟨rfl,_⟩:=hb
     rw [(MapKept.heap_alloc w _).1] at hc
     cases hc
     subst e1
     simp at hv
   · exact ⟨w.heap.size,#[],0,by simp [Loc.at],fun h => absurd (hr.hp.flt _ h) (by omega),(MapKept.heap_alloc w _).1,rfl,⟨fun e he => by simp at he,by simp⟩,rfl,fun i v r h1 => by simp at h1,fun i j v v' c h1 => by simp at h1⟩
   · exact ⟨w.heap.size,by simp [Loc.at],rfl⟩
 have hmade:c0V (cx.mkr t) kt vt agg = .map kt vt agg []:=by
  cases hmr:cx.mkr t with
  | false => unfold c0V; rfl
  | true => cases vt <;> first | rfl | (cases agg <;> first | rfl | exact absurd ⟨_,hmr,rfl,rfl⟩ hmk)
 rw [hmade] at h
 refine C0 (v:=.map (some w.heap.size)) hN hk h (hr.new (.map #[] 0) (.map kt vt agg []) 0 (fun _ => n9 rfl) ?_) (by simp [execOp,ho,Instr.makeMap]) ?_
 · exact ⟨w.heap.size,#[],0,by simp [Loc.at],fun h => absurd (hr.hp.flt _ h) (by omega),(MapKept.heap_alloc w _).1,rfl,⟨fun e he => by simp at he,by simp⟩⟩
 · exact ⟨w.heap.size,by simp [Loc.at],rfl⟩
theorem a3B (hcx:CxOk P cx) (hr:Rel w0 Φ0 own0 N w Φ β s a) {S:World → Prop} {K:Nat → Prop} (hS:∀ w',S w' → ∀ b,K b → w'.heap[b]? = w.heap[b]?)
  {t:TypeId} {x i:Operand} {ok:Bool} (ho:o.op = .lookup t x i ok) (hK:∀ id,l6 s.env x = some (.one (.mp id)) → ∀ b p,β id = some (some (b,p)) → (∃ c v g l,look s.heap id = some (.map c v g l)) → K b)
  {td:TD} {v j:SVal} (htd:cx.tab t = some td) (hx:l6 s.env x = some v) (hi:l6 s.env i = some j) (h:U1 td s v j ok (fun r => k (s.set o.dst r)) = some r):C2 P R S w Φ β s a o k r:=by
 have h1:=hr.eval hx
 have h2:=hr.eval hi
 unfold U1 at h
 split at h
 case h_2 => cases h
 rename_i kt vt agg id l
 split at h
 case h_2 => cases h
 rename_i k' v' agg' es hl
 split at h
 case isFalse => cases h
 rename_i hc
 obtain ⟨rfl,rfl,rfl⟩:=hc
 split at h
 case h_2 => cases h
 rename_i y hy
 obtain ⟨_,kt,et,hu,⟨d,hkd,hkk⟩,inf,z,hinf,hz,hwf,hco,hzz,hone⟩:=hcx.tab t _ htd
 obtain ⟨b,es',clock,hb,hnΦ,hblk,hent,hborn⟩:=hr.hp.ob id _ hl
 obtain ⟨b',hb',hxv⟩:=h1
 rw [hb] at hb'; cases hb'
 have hyv:VC w Φ k' y [a.eval i]:=a8s hy h2
 have hKb:=hK id hx b 0 hb ⟨_,_,_,_,hl⟩
 have hfk:=find_spec (w:=w) (Φ:=Φ) hkk hyv es es'.toList 0 hent
 obtain ⟨u,us,g1,g2,g3⟩:∃ u us,VC w Φ v' (j4 k'.eqK v'.zero es y) us ∧ u = J7 agg' us ∧ ∀ w',w'.heap[b]? = w.heap[b]? → (Instr.lookup t (a.eval x) (a.eval i) ok).run P w' = .ok (if ok then .tuple #[u,.bool (D0 k'.eqK es y)] else u) w':=by
  have hrun:∀ (w':World) (q:Option (Nat × Value)),w'.heap[b]? = w.heap[b]? → Instr.findNow d (a.eval i) es'.toList 0 = some q → (Instr.lookup t (a.eval x) (a.eval i) ok).run P w' = (match q with
    | some (_,v) => .ok (if ok then .tuple #[v,.bool true] else v) w'
    | none => .ok (if ok then .tuple #[z,.bool false] else z) w'):=by
   intro w' q he hq
   have hb':w'.heap[b]? = some (.map es' clock):=by rw [he]; exact hblk
   rw [hxv]
   unfold Instr.lookup
   simp only [Sem.run_bind,run_underlying hu,Result.andThen_ok,MapKept.run_getObj_map hb',Sem.run_pure,MapKept.run_checkKey hkd (Q0 hkk hyv),MapKept.run_findKey hkd hq]
   cases q with
   | none => simp [zeroValue,B7 hinf,hz]
   | some p => obtain ⟨p1,p2⟩:=p; simp
  rcases hfk with ⟨f1,f2,_⟩ | ⟨yy,jj,e,f1,f2,f3,f4,⟨us,f5,f6⟩,_⟩
  · refine ⟨z,z.cells.toList,?_,hzz,fun w' he => ?_⟩
    · simp only [j4,f1]; exact b2z v' _ hwf hco
    · rw [hrun w' none he f2]; simp [D0,f1]
  · refine ⟨e.val,us,?_,f6,fun w' he => ?_⟩
    · simp only [j4,f1]; exact f5
    · rw [hrun w' _ he f2]; simp [D0,f1]
 have hun:=C1 (β:=β) (hp:=s.heap) v' _ us g1
 split at h
 · refine n4 h (v:=.tuple #[u,.bool (D0 k'.eqK es y)]) (fun w' hw' => ?_) ?_
   · have:=g3 w' (hS w' hw' b hKb)
     simp [execOp,ho,this]
   · refine ⟨_,rfl,u,[.bool _],rfl,?_,.bool _,[],rfl,?_,rfl⟩
     · unfold a0t
       cases agg' with
       | true => rw [if_pos rfl]; exact ⟨us.toArray,by rw [g2]; rfl,by simpa using hun⟩
       | false =>
         simp only [Bool.false_eq_true,if_false]
         have hl1:=a1S _ _ _ g1
         have hz1:v'.size = 1:=hone rfl
         match us,hl1 with
         | [u0],_ => rw [g2]; exact hun
         | [],hl1 => simp [hz1] at hl1
         | _ :: _ :: _,hl1 => simp [hz1] at hl1
     · show v8 w Φ β s.heap [.bool _] [.bool _]
       exact ⟨_,_,rfl,rfl,rfl⟩
 · split at h
   case h_2 => cases h
   rename_i rr hrr
   refine n4 h (v:=u) (fun w' hw' => ?_) (by rw [g2]; exact a0u hrr hun)
   have:=g3 w' (hS w' hw' b hKb)
   simp [execOp,ho,this]
theorem b2e (hcx:CxOk P cx) (hr:Rel w0 Φ0 own0 N w Φ β s a) {S:World → Prop} {K:Nat → Prop} (hS:∀ w',S w' → ∀ b,K b → w'.heap[b]? = w.heap[b]?)
  {t:TypeId} {x i:Operand} {ok:Bool} (ho:o.op = .lookup t x i ok) (hK:∀ id,l6 s.env x = some (.one (.mp id)) → ∀ b p,β id = some (some (b,p)) → (∃ c v g l,look s.heap id = some (.map c v g l)) → K b)
  (hnt:∀ id kt e l,l6 s.env x = some (.one (.mp id)) → look s.heap id = some (.mrows kt e l none) → s.held id = true) (h:j6 cx o s k = some r):C2 P R S w Φ β s a o k r:=by
 simp only [j6,ho] at h
 split at h
 case h_2 => cases h
 rename_i td v j htd hx hi
 exact a3B hcx hr hS ho hK htd hx hi h
theorem b2t (hcx:CxOk P cx) (hr:Rel w0 Φ0 own0 N w Φ β s a) (hN:∀ d,o.dst = some d → N.ok d) (hk:∀ s' a' w' Φ' β',Rel w0 Φ0 own0 N w' Φ' β' s' a' → k s' = some r → next a' w')
  {t:TypeId} {x i:Operand} {ok:Bool} (ho:o.op = .lookup t x i ok) {td:TD} {v j:SVal} (htd:cx.tab t = some td) (hx:l6 s.env x = some v) (hi:l6 s.env i = some j) (h:U1 td s v j ok (fun r => k (s.set o.dst r)) = some r):o.wp P a w next Q :=
 (a3B (S:=fun w' => w' = w) (K:=fun _ => True) hcx hr (fun w' e b _ => by rw [e]) ho (fun _ _ _ _ _ _ => trivial) htd hx hi h).wp hr rfl hN hk
theorem a7h (hcx:CxOk P cx) (hr:Rel w0 Φ0 own0 N w Φ β s a) (hN:∀ d,o.dst = some d → N.ok d) (hk:∀ s' a' w' Φ' β',Rel w0 Φ0 own0 N w' Φ' β' s' a' → k s' = some r → next a' w')
  {t:TypeId} {x i y:Operand} (ho:o.op = .mapUpdate t x i y ∨ o.op = .insert t x i y) {td:TD} {v j u:SVal} (htd:cx.tab t = some td) (hx:l6 s.env x = some v) (hi:l6 s.env i = some j) (hy:l6 s.env y = some u)
  (h':a3h td s v j u (fun s' => k (s'.set o.dst (.one .undef))) = some r):o.wp P a w next Q:=by
 have hex:∀ w',(Instr.mapUpdate t (a.eval x) (a.eval i) (a.eval y)).run P w = .ok () w' → (execOp a.eval o).run P w = .ok .skip w':=by
  intro w' hh
  rcases ho with ho | ho <;> simp [execOp,ho,hh]
 have h1:=hr.eval hx
 have h2:=hr.eval hi
 have h3:=hr.eval hy
 unfold a3h at h'
 split at h'
 case h_2 => cases h'
 rename_i kt vt agg id l vs hvs
 obtain ⟨hc,h⟩:=e8 h'
 clear h'
 simp only [and_eq_true] at hc
 split at h
 case h_2 => cases h
 rename_i q z s' hq hz
 split at h
 case h_2 => cases h
 rename_i k' v' agg' es hl
 split at h
 case isFalse => cases h
 rename_i e1
 subst e1
 split at h
 case isFalse => cases h
 rename_i e2
 subst e2
 have h4:=e8 h
 clear h
 obtain ⟨hg,h⟩:=h4
 simp only [and_eq_true,Bool.not_eq_true'] at hg
 have hagg:=eq_of_beq hg.1
 subst hagg
 have hh:=hg.2
 have hisagg:=eq_of_beq hc.2
 have hdf:vs.all Leaf.def = true ∨ ∃ cs,u = .agg cs:=by
  have:=hc.1
  simp only [Bool.or_eq_true] at this
  rcases this with g | g
  · exact .inl g
  · cases u <;> first | exact .inr ⟨_,rfl⟩ | cases g
 have hls:=K8 hvs h3 hdf
 obtain ⟨Φ',p1,p2,p3⟩:=L7 hr hls hz
 obtain ⟨_,ktt,et,hu,⟨d,hkd,hkk⟩,inf,zz,hinf,hzz,hwf,hco,_,_⟩:=hcx.tab t _ htd
 obtain ⟨b,es',clock,hb,hnΦ,hblk,hent,hborn⟩:=p1.hp.ob id _ hl
 obtain ⟨b',hb',hxv⟩:=h1
 rw [hb] at hb'; cases hb'
 have hqv:VC w Φ' k' q [a.eval i]:=B2 p2.mono.frz p2.mono.sub _ _ _ (a8s hq h2)
 have hval:a.eval y = J7 agg' (a.eval y).cells.toList:=by
  cases u with
  | one lf =>
    have ha:agg' = false:=by rw [← hisagg]; rfl
    subst ha
    cases hvs
    have:=a1N h3 (by rcases hdf with g | ⟨_,g⟩; · simpa using g
                     · cases g)
    have hc:(a.eval y).cells = #[a.eval y]:=by cases hv:a.eval y <;> first | rfl | (rw [hv] at this; cases this)
    rw [hc]; rfl
  | agg cs =>
    have ha:agg' = true:=by rw [← hisagg]; rfl
    subst ha
    obtain ⟨us,e,_⟩:=h3
    rw [e]; simp [J7,Value.cells]
  | tup _ => cases hvs
  | skip => cases hvs
 have hcast:c5X rfl rfl es = es:=rfl
 rw [hcast] at h
 have hfk:=find_spec (w:=w) (Φ:=Φ') hkk hqv es es'.toList 0 hent
 have fin:∀ (es2:Array MapEntry) (clock2:Nat),a3Z w Φ' k' v' agg' (o4 k'.eqK es q z) es2.toList → b1p es2.toList clock2 →
   (Instr.mapUpdate t (a.eval x) (a.eval i) (a.eval y)).run P w = .ok () { w with heap:=w.heap.setIfInBounds b (.map es2 clock2) } → o.wp P a w next Q:=by
  intro es2 clock2 f1 f2 f3
  obtain ⟨q1,q2⟩:=MapKept.heap_set (o':=Obj.map es2 clock2) hblk
  have hmine:=p1.a9U hh hl rfl hb
  have m:Mono w Φ' β s'.heap { w with heap:=w.heap.setIfInBounds b (.map es2 clock2) } Φ' β (s'.put id (.map k' v' agg' (o4 k'.eqK es q z))).heap:=by
   refine ⟨fun b' hb' => q2 b' (fun e => hnΦ (e ▸ hb')),fun _ h => h,fun _ _ h => h,?_,?_⟩
   · intro j x hx r hr
     simp only [St.put,g9] at hr
     split at hr
     · cases hr
     · exact hr
   · intro j b' o' r hj hr
     unfold m0
     by_cases e:b' = b
     · subst e; rw [hblk,q1]
     · rw [q2 b' e]
  refine upon_skip (hex _ f3) (hk _ _ _ Φ' β ((p1.b4n (o':=.map k' v' agg' (o4 k'.eqK es q z)) rfl rfl hl (.inl rfl) hh _ Φ' ?_ (by simp) (fun _ h => h) (fun _ h => .inl h) ?_ (fun b' hb' => q2 b' (fun e => hnΦ (e ▸ hb'))) ?_ (.inr rfl) ?_).set (sv:=.one .undef) (v:=undef) trivial hN) h)
  · refine ⟨p1.same.os,p1.same.tape,p1.same.output,by simpa using p1.same.size,fun b' hb' hn => ?_⟩
    rw [q2 b' (fun e => ?_)]
    · exact p1.same.block b' hb' hn
    · subst e
      rcases hmine with g | g
      · exact hn g
      · omega
  · intro b' hb' hne
    exact q2 b' (fun e => by subst e; exact hne rfl 0 hb)
  · intro b' hb'
    unfold m0
    by_cases e:b' = b
    · subst e; rw [hblk]; simp only [q1]
    · rw [q2 b' e]
  · exact ⟨b,es2,clock2,hb,hnΦ,q1,a0q m.frz m.sub _ _ f1,f2⟩
 have hck:∀ n,(Instr.checkKey false (n + 1) ktt (a.eval i)).run P w = .ok () w:=fun n => MapKept.run_checkKey hkd (Q0 hkk hqv) false n
 rcases hfk with ⟨f1,f2,f3⟩ | ⟨yy,jj,e,f1,f2,f3,f4,_,f6⟩
 · refine fin (es'.push { key:=a.eval i,val:=a.eval y,born:=clock }) (clock + 1) (by rw [Array.toList_push]; exact f3 z _ _ p3 rfl hval) ?_ ?_
   · rw [Array.toList_push]
     refine ⟨fun e he => ?_,List.pairwise_append.2 ⟨hborn.2,by simp,fun x hx y hy => ?_⟩⟩
     · rcases List.mem_append.1 he with g | g
       · have:=hborn.1 e g; omega
       · simp at g; subst g; exact Nat.lt_succ_self _
     · simp at hy; subst hy; have:=hborn.1 x hx; simp only; omega
   · rw [hxv]
     unfold Instr.mapUpdate
     simp only [Sem.run_bind,run_underlying hu,Result.andThen_ok,MapKept.run_getObj_map hblk,hck,MapKept.run_findKey hkd f2,MapKept.run_setObj_map _ hblk]
 · rw [Nat.zero_add] at f2
   have hsb:Instr.sameBits 10000 (a.eval i) (a.eval i) = true:=b2n (Q0 hkk hqv)
   have hje:es'[jj]? = some e:=by simpa using f3
   refine fin (es'.modify jj fun e => { e with key:=a.eval i,val:=a.eval y }) clock ?_ ?_ ?_
   · rw [Array.toList_modify]
     exact f6 z _ _ p3 rfl hval
   · have hbm:(es'.modify jj fun e => { e with key:=a.eval i,val:=a.eval y }).toList.map (·.born) = es'.toList.map (·.born):=by
      apply List.ext_getElem?
      intro j
      simp only [List.getElem?_map,Array.getElem?_toList,Array.getElem?_modify]
      by_cases hij:jj = j
      · subst hij
        cases es'[jj]? <;> simp
      · simp [hij]
     have hp2:(es'.toList.map (·.born)).Pairwise (· ≠ ·):=List.pairwise_map.2 hborn.2
     refine ⟨fun x hx => ?_,?_⟩
     · have:x.born ∈ (es'.modify jj fun e => { e with key:=a.eval i,val:=a.eval y }).toList.map (·.born):=List.mem_map.2 ⟨x,hx,rfl⟩
       rw [hbm] at this
       obtain ⟨x',hx',e'⟩:=List.mem_map.1 this
       rw [← e']; exact hborn.1 x' hx'
     · rw [← hbm] at hp2
       exact List.pairwise_map.1 hp2
   · rw [hxv]
     unfold Instr.mapUpdate
     have hkts:(Instr.keyThatStays (((es'[jj]?).map (·.key)).getD (a.eval i)) (a.eval i)).run P w = .ok (a.eval i) w:=by
      rw [hje]
      simp only [Option.map_some,Option.getD_some,f4]
      unfold Instr.keyThatStays
      rw [if_pos hsb]; simp
     simp only [Sem.run_bind,run_underlying hu,Result.andThen_ok,MapKept.run_getObj_map hblk,hck,MapKept.run_findKey hkd f2,hkts,MapKept.run_setObj_map _ hblk]
end
section
variable {P:Program} {R:Type} {w0:World} {Φ0 own0:Nat → Prop} {N:Frm} {w:World} {Φ:Nat → Prop} {β:Loc} {s:St} {a:Act} {hp:List (Nat × SObj)}
variable {cx:Cx} {o:Oper} {next:Act → World → Prop} {Q:Exit → Act → World → Prop} {k:St → Option R} {r:R}
theorem b2A {c v:CT} {agg:Bool}:∀ {l:List (c.denote × v.denote)} {es:List MapEntry},a3Z w Φ c v agg l es → es.length = l.length
 | [],es,h => by rw [show es = [] from h]; rfl
 | p :: l,es,⟨e,es',e1,_,_,e5⟩ => by rw [e1,List.length_cons,List.length_cons,b2A e5]
theorem c2E (hcx:CxOk P cx) (hr:Rel w0 Φ0 own0 N w Φ β s a) (hN:∀ d,o.dst = some d → N.ok d) (hk:∀ s' a' w' Φ' β',Rel w0 Φ0 own0 N w' Φ' β' s' a' → k s' = some r → next a' w')
  {c:Call} (ho:o.op = .call c) (hc:c.callee = .builtin .len) (h:j6 cx o s k = some r):o.wp P a w next Q:=by
 by_cases hnm:∀ x id,c.args.toList = [x] → l6 s.env x ≠ some (.one (.mp id))
 · exact (b1c hcx hr ho hc hnm h).wp hr trivial hN hk
 · have hnm2:∃ x id,c.args.toList = [x] ∧ l6 s.env x = some (.one (.mp id)):=by
    refine Classical.byContradiction fun hx => hnm fun x id h1 h2 => hx ⟨x,id,h1,h2⟩
   obtain ⟨x0,id,hx0,he⟩:=hnm2
   simp only [j6,ho,hc] at h
   split at h
   case h_2 => cases h
   rename_i x t ts hargs hty
   rw [hx0] at hargs
   cases hargs
   rw [he] at h
   split at h
   case h_2 => cases h
   rename_i td v htd hv
   cases hv
   have hargs':c.args = #[x0]:=by rw [← Array.toList_inj]; simpa using hx0
   have ht:c.argTypes[0]? = some t:=by rw [← Array.getElem?_toList,hty]; rfl
   have h1:=hr.eval he
   obtain ⟨b',hb',hxv⟩:=h1
   cases hmp:a8C td s (.mp id) with
   | none =>
     rw [hmp] at h
     simp only at h
     have:lenOf td s (.mp id) = none:=by
      cases td with
      | leaf z => cases z <;> rfl
      | _ => rfl
     rw [this] at h
     cases h
   | some m =>
     rw [hmp] at h
     unfold a8C at hmp
     split at hmp
     case h_2 => cases hmp
     rename_i kt vt agg id2 hid
     cases hid
     split at hmp
     case h_2 => cases hmp
     rename_i k' v' agg' l hl
     cases hmp
     obtain ⟨b,es',clock,hb,hnΦ,hblk,hent,hborn⟩:=hr.hp.ob id _ hl
     rw [hb] at hb'; cases hb'
     obtain ⟨_,ktt,et,hu,_⟩:=hcx.tab t _ htd
     have hlen:es'.size = l.length:=by rw [← Array.length_toList]; exact b2A hent
     have hrun:(Builtin.len_ c.argTypes o.type #[a.eval x0]).run P w = .ok (.int .i64 l.length) w:=by
      simp [Builtin.len_,ht,hxv,run_underlying hu,MapKept.run_getObj_map hblk,goInt,hlen]
     refine C0 (x:=.one (.int .i64 l.length)) (v:=.int .i64 l.length) hN hk h hr ?_ rfl
     simp [execOp,ho,resolve,hc,invoke,builtin,hargs',hrun]
theorem b2Q {c v:CT} {agg:Bool} {d:TypeDesc} (hd:b5a c d) {x:c.denote} {kv:Value} (hx:VC w Φ c x [kv]):∀ (l:List (c.denote × v.denote)) (es:List MapEntry) (i:Nat),a3Z w Φ c v agg l es →
  (Instr.findNow d kv es i = some none ∧ C4 c.eqK l x = l) ∨
  ∃ j e,Instr.findNow d kv es i = some (some (i + j,e)) ∧ a3Z w Φ c v agg (C4 c.eqK l x) (es.eraseIdx j)
 | [],es,i,h => by
   cases h
   exact .inl ⟨rfl,rfl⟩
 | p :: l,es,i,⟨e,es',e1,e2,⟨us,e3,e4⟩,e5⟩ => by
   subst e1
   have hs:=a9k hd hx e2
   cases hb:c.eqK x p.1 with
   | true =>
     rw [hb] at hs
     exact .inr ⟨0,e.val,by simp [Instr.findNow,hs],by simp only [C4,hb,cond_true,List.eraseIdx_cons_zero]; exact e5⟩
   | false =>
     rw [hb] at hs
     rcases b2Q hd hx l es' (i + 1) e5 with ⟨g1,g2⟩ | ⟨j,e',g1,g2⟩
     · exact .inl ⟨by simp [Instr.findNow,hs,g1],by simp only [C4,hb,cond_false,g2]⟩
     · refine .inr ⟨j + 1,e',by simp [Instr.findNow,hs,g1]; omega,?_⟩
       simp only [C4,hb,cond_false,List.eraseIdx_cons_succ]
       exact ⟨_,_,rfl,e2,⟨us,e3,e4⟩,g2⟩
theorem b4f (hcx:CxOk P cx) (hr:Rel w0 Φ0 own0 N w Φ β s a) (hN:∀ d,o.dst = some d → N.ok d) (hk:∀ s' a' w' Φ' β',Rel w0 Φ0 own0 N w' Φ' β' s' a' → k s' = some r → next a' w')
  {c:Call} (ho:o.op = .call c) (hc:c.callee = .builtin .delete) (h:j6 cx o s k = some r):o.wp P a w next Q:=by
 simp only [j6,ho,hc] at h
 split at h
 case h_2 => cases h
 rename_i x y t ts hargs hty
 split at h
 case h_2 => cases h
 rename_i td v u htd hx hy
 have ha:c.args = #[x,y]:=by rw [← Array.toList_inj]; simpa using hargs
 have hat:c.argTypes[0]? = some t:=by rw [← Array.getElem?_toList,hty]; rfl
 have h1:=hr.eval hx
 have h2:=hr.eval hy
 unfold a4h at h
 split at h
 case h_2 => cases h
 rename_i kt vt ag id lf
 split at h
 case h_2 => cases h
 rename_i k' v' agg' es hl
 split at h
 case isFalse => cases h
 rename_i hkt
 subst hkt
 split at h
 case h_2 => cases h
 rename_i q hq
 obtain ⟨hh0,h⟩:=e8 h
 have hh:s.held id = false:=by simpa using hh0
 obtain ⟨_,ktt,et,hu,⟨d,hkd,hkk⟩,inf,zz,hinf,hzz,hwf,hco,_,_⟩:=hcx.tab t _ htd
 obtain ⟨b,es',clock,hb,hnΦ,hblk,hent,hborn⟩:=hr.hp.ob id _ hl
 obtain ⟨b',hb',hxv⟩:=h1
 rw [hb] at hb'; cases hb'
 have hqv:VC w Φ k' q [a.eval y]:=a8s hq h2
 have fin:∀ (es2:Array MapEntry),a3Z w Φ k' v' agg' (C4 k'.eqK es q) es2.toList → b1p es2.toList clock →
   (Builtin.delete_ c.argTypes o.type #[a.eval x,a.eval y]).run P w = .ok (.tuple #[]) { w with heap:=w.heap.setIfInBounds b (.map es2 clock) } → o.wp P a w next Q:=by
  intro es2 f1 f2 f3
  obtain ⟨q1,q2⟩:=MapKept.heap_set (o':=Obj.map es2 clock) hblk
  have hmine:=hr.a9U hh hl rfl hb
  have m:Mono w Φ β s.heap { w with heap:=w.heap.setIfInBounds b (.map es2 clock) } Φ β (s.put id (.map k' v' agg' (C4 k'.eqK es q))).heap:=by
   refine ⟨fun b' hb' => q2 b' (fun e => hnΦ (e ▸ hb')),fun _ h => h,fun _ _ h => h,?_,?_⟩
   · intro j x hx r hr
     simp only [St.put,g9] at hr
     split at hr
     · cases hr
     · exact hr
   · intro j b' o' r hj hr
     unfold m0
     by_cases e:b' = b
     · subst e; rw [hblk,q1]
     · rw [q2 b' e]
  refine C0 (x:=.one .undef) (v:=.tuple #[]) (w':={ w with heap:=w.heap.setIfInBounds b (.map es2 clock) }) (Φ':=Φ) (β':=β) hN hk h (hr.b4n (o':=.map k' v' agg' (C4 k'.eqK es q)) rfl rfl hl (.inl rfl) hh _ Φ ?_ (by simp) (fun _ h => h) (fun _ h => .inl h) ?_ (fun b' hb' => q2 b' (fun e => hnΦ (e ▸ hb'))) ?_ (.inr rfl) ?_) ?_ trivial
  · refine ⟨hr.same.os,hr.same.tape,hr.same.output,by simpa using hr.same.size,fun b' hb' hn => ?_⟩
    rw [q2 b' (fun e => ?_)]
    · exact hr.same.block b' hb' hn
    · subst e
      rcases hmine with g | g
      · exact hn g
      · omega
  · intro b' hb' hne
    exact q2 b' (fun e => by subst e; exact hne rfl 0 hb)
  · intro b' hb'
    unfold m0
    by_cases e:b' = b
    · subst e; rw [hblk]; simp only [q1]
    · rw [q2 b' e]
  · exact ⟨b,es2,clock,hb,hnΦ,q1,a0q m.frz m.sub _ _ f1,f2⟩
  · simp [execOp,ho,resolve,hc,invoke,builtin,ha,f3]
 have hck:∀ bb n,(Instr.checkKey bb (n + 1) ktt (a.eval y)).run P w = .ok () w:=fun bb n => MapKept.run_checkKey hkd (Q0 hkk hqv) bb n
 rcases b2Q (w:=w) (Φ:=Φ) hkk hqv es es'.toList 0 hent with ⟨f1,f2⟩ | ⟨j,e,f1,f2⟩
 · refine fin es' (by rw [f2]; exact hent) hborn ?_
   rw [hxv]
   unfold Builtin.delete_
   simp [hat,run_underlying hu,MapKept.run_getObj_map hblk,hck,MapKept.run_findKey hkd f1,MapKept.run_setObj_map _ hblk]
 · rw [Nat.zero_add] at f1
   refine fin (es'.eraseIdxIfInBounds j) (by rw [Array.toList_eraseIdxIfInBounds]; exact f2) ?_ ?_
   · rw [Array.toList_eraseIdxIfInBounds]
     exact ⟨fun e he => hborn.1 e ((List.eraseIdx_sublist _ _).subset he),hborn.2.sublist (List.eraseIdx_sublist _ _)⟩
   · rw [hxv]
     unfold Builtin.delete_
     simp [hat,run_underlying hu,MapKept.run_getObj_map hblk,hck,MapKept.run_findKey hkd f1,MapKept.run_setObj_map _ hblk]
end
section
variable {P:Program} {R:Type} {w0:World} {Φ0 own0:Nat → Prop} {N:Frm} {w:World} {Φ:Nat → Prop} {β:Loc} {s:St} {a:Act} {hp:List (Nat × SObj)}
variable {cx:Cx} {o:Oper} {next:Act → World → Prop} {Q:Exit → Act → World → Prop} {k:St → Option R} {r:R}
theorem b8A (hcx:CxOk P cx) (hr:Rel w0 Φ0 own0 N w Φ β s a) (hN:∀ d,o.dst = some d → N.ok d) (hk:∀ s' a' w' Φ' β',Rel w0 Φ0 own0 N w' Φ' β' s' a' → k s' = some r → next a' w')
  {t:TypeId} {x:Operand} (ho:o.op = .load t x) (hg:GvR cx.gv w Φ) (h:j6 cx o s k = some r):o.wp P a w next Q:=by
 simp only [j6,ho] at h
 split at h
 · rename_i u hu
   split at h
   case h_2 => cases h
   rename_i td htd
   exact a9v hcx hr hN hk ho htd (b7H hg hu) h
 split at h
 case h_2 => cases h
 rename_i td u htd hx
 exact a9v hcx hr hN hk ho htd (hr.eval hx) h
theorem b5F (hcx:CxOk P cx) (hr:Rel w0 Φ0 own0 N w Φ β s a) (hN:∀ d,o.dst = some d → N.ok d) (hk:∀ s' a' w' Φ' β',Rel w0 Φ0 own0 N w' Φ' β' s' a' → k s' = some r → next a' w')
  {t:TypeId} {x y:Operand} (ho:o.op = .store t x y) (h:j6 cx o s k = some r):o.wp P a w next Q:=by
 simp only [j6,ho] at h
 split at h
 case h_2 => cases h
 rename_i td v u htd hx hy
 exact b4j hcx hr hN hk ho htd hx hy h
theorem b4h (hcx:CxOk P cx) (hr:Rel w0 Φ0 own0 N w Φ β s a) (hN:∀ d,o.dst = some d → N.ok d) (hk:∀ s' a' w' Φ' β',Rel w0 Φ0 own0 N w' Φ' β' s' a' → k s' = some r → next a' w')
  {t:TypeId} {x i:Operand} {ok:Bool} (ho:o.op = .lookup t x i ok) (h:j6 cx o s k = some r):o.wp P a w next Q:=by
 simp only [j6,ho] at h
 split at h
 case h_2 => cases h
 rename_i td v j htd hx hi
 exact b2t hcx hr hN hk ho htd hx hi h
theorem a2I (hcx:CxOk P cx) (hr:Rel w0 Φ0 own0 N w Φ β s a) (hN:∀ d,o.dst = some d → N.ok d) (hk:∀ s' a' w' Φ' β',Rel w0 Φ0 own0 N w' Φ' β' s' a' → k s' = some r → next a' w')
  {t:TypeId} {x i y:Operand} (ho:o.op = .mapUpdate t x i y ∨ o.op = .insert t x i y) (h:j6 cx o s k = some r):o.wp P a w next Q:=by
 have h':(match cx.tab t,l6 s.env x,l6 s.env i,l6 s.env y with
  | some td,some v,some j,some u => a7q td s v j u fun s' => k (s'.set o.dst (.one .undef))
  | _,_,_,_ => none) = some r:=by
  rcases ho with ho | ho <;> (simp only [j6,ho] at h; exact h)
 have hex:∀ w',(Instr.mapUpdate t (a.eval x) (a.eval i) (a.eval y)).run P w = .ok () w' → (execOp a.eval o).run P w = .ok .skip w':=by
  intro w' hh
  rcases ho with ho | ho <;> simp [execOp,ho,hh]
 clear h
 split at h'
 case h_2 => cases h'
 rename_i td v j u htd hx hi hy
 exact a7h hcx hr hN hk ho htd hx hi hy h'
theorem a7d (hcx:CxOk P cx) (hr:Rel w0 Φ0 own0 N w Φ β s a) {t:TypeId} {x:Operand} (ho:o.op = .makeInterface t x) (h:j6 cx o s k = some r):C2 P R (fun _ => True) w Φ β s a o k r:=by
 simp only [j6,ho] at h
 split at h
 · rename_i j z j' n htd hx
   have hv:=hr.eval hx
   obtain ⟨_,d,hd,_,hi,_⟩:=hcx.tab t _ htd
   have hd':=hi _ _ rfl
   subst hd'
   refine n4 h (v:=.iface t (a.eval x)) (fun w _ => by simp [execOp,ho,Instr.makeInterface,run_underlying hd]) ?_
   have hv':a.eval x = .int j' n:=hv
   rw [hv']; rfl
 · rename_i id off htd hx
   obtain ⟨b,hb,hv⟩:=hr.eval hx
   obtain ⟨_,d,hd,_,_,_,_,hp⟩:=hcx.tab t _ htd
   refine n4 h (v:=.iface t (a.eval x)) (fun w _ => ?_) ⟨b,hb,by rw [hv]⟩
   have:=hp rfl
   simp only [execOp,ho,Instr.makeInterface,Sem.run_bind,run_underlying hd,Result.andThen_ok]
   cases d <;> first | rfl | exact absurd rfl (this _)
 · cases h
theorem b2d (hcx:CxOk P cx) (hr:Rel w0 Φ0 own0 N w Φ β s a) {t t2:TypeId} {x:Operand} (ho:o.op = .typeAssert x t2 t false) (h:j6 cx o s k = some r):C2 P R (fun _ => True) w Φ β s a o k r:=by
 simp only [j6,ho] at h
 split at h
 · rename_i j z t' j' n htd hx
   have hv:a.eval x = .iface t' (.int j' n):=hr.eval hx
   obtain ⟨_,d,hd,_,hi,_⟩:=hcx.tab t _ htd
   have hd':=hi _ _ rfl
   subst hd'
   obtain ⟨hc,h2⟩:=e8 h
   have ht:=Nat.eq_of_beq_eq_true hc
   subst ht
   exact n4 h2 (v:=.int j' n) (fun w _ => by simp [execOp,ho,Instr.typeAssert,run_underlying hd,hv]) rfl
 · cases h
theorem a6d {z0:Value}:a0t w Φ β s.heap ([.undef],false) z0:=by
 unfold a0t
 simp only [Bool.false_eq_true,if_false]
 exact ⟨_,_,rfl,trivial,rfl⟩
theorem a8T (hcx:CxOk P cx) (hr:Rel w0 Φ0 own0 N w Φ β s a) {t t2:TypeId} {x:Operand} (ho:o.op = .typeAssert x t2 t true) (h:j6 cx o s k = some r):C2 P R (fun _ => True) w Φ β s a o k r:=by
 simp only [j6,ho] at h
 split at h
 · rename_i j z t' j' n htd hx
   have hv:a.eval x = .iface t' (.int j' n):=hr.eval hx
   obtain ⟨i0,z0,hi0,_,hz0,hc0⟩:=(hcx.tab t _ htd).zero
   obtain ⟨_,d,hd,_,hi,_⟩:=hcx.tab t _ htd
   have hd':=hi _ _ rfl
   subst hd'
   cases hc:Nat.beq t' t with
   | true =>
     rw [hc] at h
     have ht:=Nat.eq_of_beq_eq_true hc
     subst ht
     exact n4 h (v:=.tuple #[.int j' n,.bool true]) (fun w _ => by simp [execOp,ho,Instr.typeAssert,run_underlying hd,hv]) ⟨_,rfl,_,_,rfl,⟨_,_,rfl,rfl,rfl⟩,_,_,rfl,⟨_,_,rfl,rfl,rfl⟩,rfl⟩
   | false =>
     rw [hc] at h
     have hne:¬ t' = t:=fun e => by rw [e,Nat.beq_refl] at hc; cases hc
     refine n4 h (v:=.tuple #[z0,.bool false]) (fun w _ => by simp [execOp,ho,Instr.typeAssert,run_underlying hd,hv,hne,zeroValue,B7 hi0,hz0]) ⟨_,rfl,_,_,rfl,?_,_,_,rfl,⟨_,_,rfl,rfl,rfl⟩,rfl⟩
     exact a6d
 · rename_i j z htd hx
   have hv:a.eval x = .nilIface:=hr.eval hx
   obtain ⟨i0,z0,hi0,_,hz0,hc0⟩:=(hcx.tab t _ htd).zero
   obtain ⟨_,d,hd,_,hi,_⟩:=hcx.tab t _ htd
   have hd':=hi _ _ rfl
   subst hd'
   refine n4 h (v:=.tuple #[z0,.bool false]) (fun w _ => by simp [execOp,ho,Instr.typeAssert,run_underlying hd,hv,zeroValue,B7 hi0,hz0]) ⟨_,rfl,_,_,rfl,?_,_,_,rfl,⟨_,_,rfl,rfl,rfl⟩,rfl⟩
   exact a6d
 · cases h
end
section
variable {w w':World} {Φ Φ':Nat → Prop} {β γ:Loc} {hp hp':List (Nat × SObj)} {ρ:Rho}
theorem a9F:∀ {ts:List CT} {ds:List Dyn} {d:(O7 ts).denote},toD ts ds = some d → l8 ts d = ds
 | [],[],d,h => rfl
 | [],_ :: _,d,h => by simp [toD] at h
 | [a],[],d,h => by simp [toD] at h
 | [a],[x],d,h => by
   obtain ⟨t,x⟩:=x
   simp only [toD] at h
   split at h
   · rename_i e; subst e; cases h; rfl
   · cases h
 | [a],_ :: _ :: _,d,h => by simp [toD] at h
 | a :: b :: r,[],d,h => by simp [toD] at h
 | a :: b :: r,x :: ds,d,h => by
   obtain ⟨t,x⟩:=x
   simp only [toD] at h
   split at h
   case isFalse => cases h
   rename_i e
   subst e
   split at h
   case h_2 => cases h
   rename_i y hy
   cases h
   show _ :: l8 (b :: r) y = _
   rw [a9F hy]
theorem a4o (hob:∀ id e l,look hp id = some (.frz e l) → ObR w Φ β hp id (.frz e l)) {t:CT} {l:Leaf} {v:Value} {x:t.denote} (hv:LfR w Φ β hp l v) (h:b4L hp t l = some x):VC w Φ t x [v]:=by
 unfold b4L at h
 split at h
 · rename_i k k' y
   split at h
   · rename_i hk; cases h; subst hk; rw [show v = _ from hv]; rfl
   · cases h
 · cases h; rw [show v = _ from hv]; rfl
 · cases h; obtain ⟨sx,e1,e2⟩:=hv; exact ⟨sx,by rw [e1],e2⟩
 · rename_i e e' l'
   split at h
   · rename_i he; subst he; cases h; exact hv
   · cases h
 · rename_i e e' l'
   split at h
   · rename_i he; subst he; cases h; exact hv.1
   · cases h
 · cases h; exact ⟨none,0,by rw [show v = _ from hv]; rfl,Nat.le_refl _,.inl rfl⟩
 · rename_i e id rr
   obtain ⟨loc,hloc,_,hs⟩:=hv
   split at h
   · rename_i e' l' hl
     split at h
     case isFalse => cases h
     rename_i he; subst he; cases h
     refine b5u (hs _ _ (by rw [hl]; rfl)) fun b o hb => ?_
     rcases hob id _ _ hl with ⟨h1,_⟩ | ⟨b',o',h1,h2,h4⟩
     · rw [hloc,hb] at h1; cases h1
     · rw [hloc,hb] at h1; cases h1; exact ⟨h2,h4⟩
   · cases h
 · cases h
theorem b6e (hob:∀ id e l,look hp id = some (.frz e l) → ObR w Φ β hp id (.frz e l)):∀ {t:CT} {ls:List Leaf} {vs:List Value} {x:t.denote},v8 w Φ β hp ls vs → O4 hp t ls = some x → VC w Φ t x vs
 | .prod p q,[],vs,x,hv,h => by simp [O4] at h
 | .prod p q,l :: ls,vs,x,⟨v,vs',e,h1,h2⟩,h => by
   subst e
   simp only [O4] at h
   split at h
   case h_2 => cases h
   rename_i y hy
   split at h
   case h_2 => cases h
   rename_i z hz
   cases h
   exact ⟨v,vs',rfl,a4o hob h1 hy,b6e hob h2 hz⟩
 | .unit,ls,vs,x,hv,h => by
   cases ls with
   | nil => exact hv
   | cons l ls => simp [O4] at h
 | .int k,ls,vs,x,hv,h => by
   match ls,hv with
   | [],_ => simp [O4] at h
   | [l],⟨v,vs',e,h1,h2⟩ => cases h2; subst e; exact a4o hob h1 h
   | _ :: _ :: _,_ => simp [O4] at h
 | .bool,ls,vs,x,hv,h => by
   match ls,hv with
   | [],_ => simp [O4] at h
   | [l],⟨v,vs',e,h1,h2⟩ => cases h2; subst e; exact a4o hob h1 h
   | _ :: _ :: _,_ => simp [O4] at h
 | .str,ls,vs,x,hv,h => by
   match ls,hv with
   | [],_ => simp [O4] at h
   | [l],⟨v,vs',e,h1,h2⟩ => cases h2; subst e; exact a4o hob h1 h
   | _ :: _ :: _,_ => simp [O4] at h
 | .list e,ls,vs,x,hv,h => by
   match ls,hv with
   | [],_ => simp [O4] at h
   | [l],⟨v,vs',e,h1,h2⟩ => cases h2; subst e; exact a4o hob h1 h
   | _ :: _ :: _,_ => simp [O4] at h
 | .sum _ _,ls,vs,x,hv,h => by simp [O4] at h
theorem b3a:∀ {t:CT} {ls:List Leaf} {x:t.denote},O4 hp t ls = some x → ls.length = t.size ∧ (v7 t x).length = t.size
 | .prod p q,[],x,h => by simp [O4] at h
 | .prod p q,l :: ls,x,h => by
   simp only [O4] at h
   split at h
   case h_2 => cases h
   split at h
   case h_2 => cases h
   rename_i z hz
   cases h
   obtain ⟨h1,h2⟩:=b3a hz
   simp [v7,CT.size,h1,h2]; omega
 | .unit,ls,x,h => by
   cases ls with
   | nil => simp [v7,CT.size]
   | cons l ls => simp [O4] at h
 | .int k,ls,x,h => by
   match ls with
   | [] => simp [O4] at h
   | [l] => simp [v7,CT.size]
   | _ :: _ :: _ => simp [O4] at h
 | .bool,ls,x,h => by
   match ls with
   | [] => simp [O4] at h
   | [l] => simp [v7,CT.size]
   | _ :: _ :: _ => simp [O4] at h
 | .str,ls,x,h => by
   match ls with
   | [] => simp [O4] at h
   | [l] => simp [v7,CT.size]
   | _ :: _ :: _ => simp [O4] at h
 | .list e,ls,x,h => by
   match ls with
   | [] => simp [O4] at h
   | [l] => simp [v7,CT.size]
   | _ :: _ :: _ => simp [O4] at h
 | .sum _ _,ls,x,h => by simp [O4] at h
theorem G5 {k id:Nat} (h:b1C ρ k id = true):ρ.at k = some id:=by
 unfold b1C at h
 split at h
 · rename_i j hj; rw [hj,Nat.eq_of_beq_eq_true h]
 · cases h
structure Corr (ρ:Rho) (β γ:Loc) (hp hp':List (Nat × SObj)):Prop where
 loc:∀ k id,ρ.at k = some id → γ k = β id
 row:∀ k id,ρ.at k = some id → ∀ r,rowOf (look hp' k) = some r → rowOf (look hp id) = some r
theorem a0Z (c:Corr ρ β γ hp hp'):∀ {xs ys:List (Option Nat)} {vs:List Value},a1A ρ xs ys = true → a5g β ys vs → a5g γ xs vs
 | [],[],_,_,h => h
 | [],_ :: _,_,h,_ => by simp [a1A] at h
 | none :: _,[],_,h,_ => by simp [a1A] at h
 | some _ :: _,[],_,h,_ => by simp [a1A] at h
 | none :: r,none :: s,vs,h,⟨v,vs',e,h1,h2⟩ => ⟨v,vs',e,h1,a0Z c (by simpa [a1A] using h) h2⟩
 | some k :: r,some id :: s,vs,h,⟨v,vs',e,⟨b,h1,h3⟩,h2⟩ => by
   simp only [a1A,and_eq_true] at h
   exact ⟨v,vs',e,⟨b,by rw [c.loc k id (G5 h.1)]; exact h1,h3⟩,a0Z c h.2 h2⟩
 | none :: _,some _ :: _,_,h,_ => by simp [a1A] at h
 | some _ :: _,none :: _,_,h,_ => by simp [a1A] at h
theorem b4M (c:Corr ρ β γ hp hp') {lt:LT} {l:Leaf} {u:Value} {ds:List Dyn} (hv:LfR w Φ β hp l u) (h:a7X ρ lt l = some ds) (rest:List Dyn) :
  ∃ l',S4 lt (ds ++ rest) = ([l'],rest) ∧ LfR w Φ γ hp' l' u:=by
 unfold a7X at h
 split at h
 · rename_i k off id off'
   obtain ⟨hb,h⟩:=e8 h
   cases h
   simp only [and_eq_true] at hb
   have e2:=Nat.eq_of_beq_eq_true hb.2
   subst e2
   obtain ⟨b,h1,h2⟩:=hv
   exact ⟨_,rfl,b,by rw [c.loc k id (G5 hb.1)]; exact h1,h2⟩
 · rename_i k off id i off'
   obtain ⟨hb,h⟩:=e8 h
   cases h
   simp only [and_eq_true] at hb
   have e2:=Nat.eq_of_beq_eq_true hb.2
   subst e2
   obtain ⟨loc,h1,h2,h3⟩:=hv
   refine ⟨.eptr k (i:Int).toNat off,rfl,loc,by rw [c.loc k id (G5 hb.1)]; exact h1,h2,fun sz n hr => ?_⟩
   rw [Int.toNat_natCast]
   exact h3 sz n (c.row k id (G5 hb.1) _ hr)
 · rename_i k id
   obtain ⟨hb,h⟩:=e8 h
   cases h
   obtain ⟨loc,h1,h2,h3⟩:=hv
   exact ⟨_,rfl,loc,by rw [c.loc k id (G5 hb)]; exact h1,h2,fun sz n hr => h3 sz n (c.row k id (G5 hb) _ hr)⟩
 · rename_i k off n id r
   obtain ⟨hb,h⟩:=e8 h
   cases h
   simp only [and_eq_true] at hb
   have e1:=Nat.eq_of_beq_eq_true hb.2.1
   have e2:=Nat.eq_of_beq_eq_true hb.2.2
   obtain ⟨r1,r2⟩:=r
   subst e1; subst e2
   obtain ⟨loc,h1,h2,h3⟩:=hv
   exact ⟨_,rfl,loc,by rw [c.loc k id (G5 hb.1)]; exact h1,h2,fun sz n hr => h3 sz n (c.row k id (G5 hb.1) _ hr)⟩
 · cases h; exact ⟨_,rfl,hv⟩
 · rename_i f a b f' a' b'
   obtain ⟨hb,h⟩:=e8 h
   cases h
   simp only [and_eq_true] at hb
   have e2:=Nat.eq_of_beq_eq_true hb.1
   subst e2
   obtain ⟨us,vs,h1,h2,h3⟩:=hv
   exact ⟨_,rfl,us,vs,h1,a0Z c hb.2.1 h2,a0Z c hb.2.2 h3⟩
 · rename_i t k off t' id off'
   obtain ⟨hb,h⟩:=e8 h
   cases h
   simp only [and_eq_true] at hb
   have e1:=Nat.eq_of_beq_eq_true hb.1
   have e2:=Nat.eq_of_beq_eq_true hb.2.2
   subst e1; subst e2
   obtain ⟨b,h1,h2⟩:=hv
   exact ⟨_,rfl,b,by rw [c.loc k id (G5 hb.2.1)]; exact h1,h2⟩
 · rename_i t j t' j' x
   split at h
   case isFalse => cases h
   obtain ⟨hb,h⟩:=e8 h
   cases h
   have e1:=Nat.eq_of_beq_eq_true hb
   subst e1
   exact ⟨_,rfl,hv⟩
 · rename_i t j t' j' x
   split at h
   case isFalse => cases h
   obtain ⟨hb,h⟩:=e8 h
   cases h
   have e1:=Nat.eq_of_beq_eq_true hb
   subst e1
   exact ⟨_,rfl,hv⟩
 · rename_i e e' l
   split at h
   case isFalse => cases h
   cases h
   exact ⟨_,rfl,hv⟩
 · rename_i k id
   obtain ⟨hb,h⟩:=e8 h
   cases h
   obtain ⟨b,h1,h2⟩:=hv
   exact ⟨_,rfl,b,by rw [c.loc k id (G5 hb)]; exact h1,h2⟩
 · cases h; exact ⟨_,rfl,hv⟩
 · cases h; exact ⟨_,rfl,hv⟩
 · cases h; exact ⟨_,rfl,hv⟩
 · cases h; exact ⟨_,rfl,hv⟩
 · cases h; exact ⟨_,rfl,trivial⟩
 · cases h
theorem b2Z {lt:LT} {l:Leaf} {ds:List Dyn} (h:a7X ρ lt l = some ds) (rest:List Dyn):∃ l',S4 lt (ds ++ rest) = ([l'],rest):=by
 unfold a7X at h
 split at h
 all_goals first
  | (cases h; done)
  | (cases h; exact ⟨_,rfl⟩)
  | (split at h
     · obtain ⟨hb,h⟩:=e8 h; cases h; exact ⟨_,rfl⟩
     · cases h)
  | (split at h
     · cases h; exact ⟨_,rfl⟩
     · cases h)
  | (obtain ⟨hb,h⟩:=e8 h; cases h; exact ⟨_,rfl⟩)
theorem b2Y {lt:LT} {l:Leaf} {ds:List Dyn} (h:a7X ρ lt l = some ds) (rest:List Dyn):(S4 lt (ds ++ rest)).1 = (S4 lt ds).1:=by
 unfold a7X at h
 split at h
 all_goals first
  | (cases h; done)
  | (cases h; rfl)
  | (split at h
     · obtain ⟨hb,h⟩:=e8 h; cases h; rfl
     · cases h)
  | (split at h
     · cases h; rfl
     · cases h)
  | (obtain ⟨hb,h⟩:=e8 h; cases h; rfl)
theorem a7y:∀ {l m:List Leaf} {u v:List Value},v8 w Φ β hp l u → v8 w Φ β hp m v → v8 w Φ β hp (l ++ m) (u ++ v)
 | [],m,u,v,h,k => by cases h; exact k
 | x :: l,m,u,v,⟨a,us,e,h1,h2⟩,k => by subst e; exact ⟨a,us ++ v,rfl,h1,a7y h2 k⟩
theorem a2n {l:LT} {t:CT} (h:l.plain = some t):l = .pl t:=by
 cases l <;> simp [LT.plain] at h
 subst h; rfl
theorem I1:∀ {lts:List LT} {ls:List Leaf} {ds:List Dyn},O5 ρ hp lts ls = some ds → ∀ rest,(B0 lts (ds ++ rest)).2 = rest ∧ (B0 lts (ds ++ rest)).1 = (B0 lts ds).1 ∧ (B0 lts ds).1.length = ls.length
 | [],[],ds,h,rest => by simp [O5] at h; subst h; simp [B0]
 | [],_ :: _,ds,h,rest => by simp [O5] at h
 | lt :: r,ls,ds,h,rest => by
   simp only [O5] at h
   split at h
   · rename_i t ht
     have:=a2n ht
     subst this
     split at h
     case h_2 => cases h
     rename_i x ds' hx hds
     cases h
     obtain ⟨h1,h2,h3⟩:=I1 hds rest
     obtain ⟨h4,h5⟩:=b3a hx
     refine ⟨by simp [B0,S4,h1],by simp [B0,S4,h2],?_⟩
     simp only [B0,S4,List.length_append,h3,h5,List.length_drop]
     simp only [List.length_take] at h4
     omega
   · split at h
     · cases h
     · rename_i v vs
       split at h
       case h_2 => cases h
       rename_i d ds' hd hds
       cases h
       obtain ⟨l',e1⟩:=b2Z hd (ds' ++ rest)
       obtain ⟨l2,e2⟩:=b2Z hd ds'
       obtain ⟨h1,h2,h3⟩:=I1 hds rest
       have e3:l' = l2:=by
        have a1:=b2Y hd (ds' ++ rest)
        have a2:=b2Y hd ds'
        rw [e1] at a1; rw [e2] at a2
        simpa using a1.trans a2.symm
       subst e3
       simp only [B0,List.append_assoc,e1,e2,h1,h2,List.length_append,List.length_cons,List.length_nil,h3]
       refine ⟨trivial,trivial,by omega⟩
theorem I2 (hob:∀ id e l,look hp id = some (.frz e l) → ObR w Φ β hp id (.frz e l)) (c:Corr ρ β γ hp hp'):∀ {lts:List LT} {ls:List Leaf} {us:List Value} {ds:List Dyn},v8 w Φ β hp ls us → O5 ρ hp lts ls = some ds →
  v8 w Φ γ hp' (B0 lts ds).1 us
 | [],[],us,ds,hv,h => by simp [O5] at h; subst h; exact hv
 | [],_ :: _,us,ds,hv,h => by simp [O5] at h
 | lt :: r,ls,us,ds,hv,h => by
   simp only [O5] at h
   split at h
   · rename_i t ht
     have:=a2n ht
     subst this
     split at h
     case h_2 => cases h
     rename_i x ds' hx hds
     cases h
     have h1:=b6e hob (L3 t.size hv) hx
     have h2:=I2 hob c (L2 t.size hv) hds
     have:=a7y (C1 (β:=γ) (hp:=hp') t x _ h1) h2
     simpa [B0,S4] using this
   · split at h
     · cases h
     · rename_i v vs
       split at h
       case h_2 => cases h
       rename_i d ds' hd hds
       cases h
       obtain ⟨u,us',e,g1,g2⟩:=hv
       subst e
       obtain ⟨l',e1,e2⟩:=b4M c g1 hd ds'
       simp only [B0,e1,List.cons_append,List.nil_append]
       exact ⟨u,us',rfl,e2,I2 hob c g2 hds⟩
def b1s (ρ:Rho) (hp:List (Nat × SObj)) (ob o':SObj):Prop :=
 (∃ cs lts d,ob = .box cs ∧ O5 ρ hp lts cs = some d ∧ o' = .box (B0 lts d).1) ∨ (∃ cs lts d,ob = .cells cs ∧ O5 ρ hp lts cs = some d ∧ o' = .cells (B0 lts d).1) ∨
   (∃ e l,ob = .arr e l ∧ o' = .arr e l) ∨ (∃ k v a l,ob = .map k v a l ∧ o' = .map k v a l) ∨ (ob.C6 = true ∧ o' = ob) ∨
   ∃ e pre cs post lts d,ob = .zip e pre cs post ∧ O5 ρ hp lts cs = some d ∧ o' = .zip e pre (B0 lts d).1 post
theorem b1s.row {ob o':SObj} (h:b1s ρ hp ob o'):rowOf (some o') = rowOf (some ob):=by
 rcases h with ⟨cs,lts,d,rfl,h2,rfl⟩ | ⟨cs,lts,d,rfl,h2,rfl⟩ | ⟨e,l,rfl,rfl⟩ | ⟨k,v,a,l,rfl,rfl⟩ | ⟨_,rfl⟩ | ⟨e,pre,cs,post,lts,d,rfl,_,rfl⟩
 · rfl
 · simp [rowOf,(I1 h2 []).2.2]
 · rfl
 · rfl
 · rfl
 · rfl
theorem b1s.owned {ob o':SObj} (h:b1s ρ hp ob o'):o'.owned = true ∧ ob.owned = true:=by
 rcases h with ⟨cs,lts,d,rfl,h2,rfl⟩ | ⟨cs,lts,d,rfl,h2,rfl⟩ | ⟨e,l,rfl,rfl⟩ | ⟨k,v,a,l,rfl,rfl⟩ | ⟨h1,rfl⟩ | ⟨e,pre,cs,post,lts,d,rfl,_,rfl⟩
 · exact ⟨rfl,rfl⟩
 · exact ⟨rfl,rfl⟩
 · exact ⟨rfl,rfl⟩
 · exact ⟨rfl,rfl⟩
 · cases o' <;> first | exact ⟨rfl,rfl⟩ | cases h1
 · exact ⟨rfl,rfl⟩
theorem b1s.rows {ob o':SObj} (h:b1s ρ hp ob o') (hr:o'.C6 = true):o' = ob:=by
 rcases h with ⟨cs,lts,d,rfl,h2,rfl⟩ | ⟨cs,lts,d,rfl,h2,rfl⟩ | ⟨e,l,rfl,rfl⟩ | ⟨k,v,a,l,rfl,rfl⟩ | ⟨h1,rfl⟩ | ⟨e,pre,cs,post,lts,d,rfl,_,rfl⟩ <;> first | rfl | cases hr
theorem a7Y {k:Nat} {o:ObT} {ds:List Dyn} (h:c0n ρ hp k o = some ds) (rest:List Dyn):(Y2 o (ds ++ rest)).2 = rest ∧ (Y2 o (ds ++ rest)).1 = (Y2 o ds).1 ∧
  (o = .gone ∧ (Y2 o ds).1 = .dead ∨ ∃ id ob,ρ.at k = some id ∧ look hp id = some ob ∧ b1s ρ hp ob (Y2 o ds).1):=by
 unfold c0n at h
 split at h
 · cases h; exact ⟨rfl,rfl,.inl ⟨rfl,rfl⟩⟩
 · split at h
   case h_2 => cases h
   rename_i id hid
   split at h
   · rename_i ls cs hl hne
     obtain ⟨h1,h2,h3⟩:=I1 h rest
     exact ⟨h1,by simp only [Y2,h2],.inr ⟨id,_,hid,hl,.inl ⟨cs,ls,ds,rfl,h,rfl⟩⟩⟩
   · rename_i ls cs hl hne
     obtain ⟨h1,h2,h3⟩:=I1 h rest
     exact ⟨h1,by simp only [Y2,h2],.inr ⟨id,_,hid,hl,.inr (.inl ⟨cs,ls,ds,rfl,h,rfl⟩)⟩⟩
   · rename_i e e' l hl hne
     split at h
     case isFalse => cases h
     cases h
     exact ⟨rfl,rfl,.inr ⟨id,_,hid,hl,.inr (.inr (.inl ⟨e',l,rfl,rfl⟩))⟩⟩
   · rename_i k v a k' v' a' l hl hne
     split at h
     case isFalse => cases h
     rename_i hc
     cases h
     obtain ⟨rfl,rfl,rfl⟩:=hc
     exact ⟨rfl,rfl,.inr ⟨id,_,hid,hl,.inr (.inr (.inr (.inl ⟨_,_,_,l,rfl,rfl⟩)))⟩⟩
   · rename_i e e' l hl hne
     split at h
     case isFalse => cases h
     rename_i hc
     subst hc
     cases h
     exact ⟨rfl,rfl,.inr ⟨id,_,hid,hl,.inr (.inr (.inr (.inr (.inl ⟨rfl,rfl⟩))))⟩⟩
   · rename_i k e k' e' l hl hne
     split at h
     case isFalse => cases h
     rename_i hc
     obtain ⟨rfl,rfl⟩:=hc
     cases h
     exact ⟨rfl,rfl,.inr ⟨id,_,hid,hl,.inr (.inr (.inr (.inr (.inl ⟨rfl,rfl⟩))))⟩⟩
   · rename_i e ls e' pre cs post hl hne
     split at h
     case isFalse => cases h
     split at h
     case h_2 => cases h
     rename_i d hd
     cases h
     have up:∀ rest,Y2 (.zip e ls) ((⟨.list e',pre⟩ :: (d ++ [⟨.list e',post⟩])) ++ rest) = (.zip e' pre (B0 ls d).1 post,rest):=by
      intro rest
      obtain ⟨h1,h2,h3⟩:=I1 hd (⟨.list e',post⟩ :: rest)
      have hp:B0 ls (d ++ (⟨.list e',post⟩ :: rest)) = ((B0 ls d).1,⟨.list e',post⟩ :: rest):=Prod.ext h2 h1
      show b6N e' pre (B0 ls ((d ++ [⟨.list e',post⟩]) ++ rest)) = _
      rw [List.append_assoc]
      show b6N e' pre (B0 ls (d ++ (⟨.list e',post⟩ :: rest))) = _
      rw [hp]
      simp only [b6N,dif_pos]
     have up0:=up []
     rw [List.append_nil] at up0
     exact ⟨by rw [up],by rw [up,up0],.inr ⟨id,_,hid,hl,.inr (.inr (.inr (.inr (.inr ⟨e',pre,cs,post,ls,d,rfl,hd,by rw [up0]⟩))))⟩⟩
   · cases h
theorem a6n:∀ {objs:List (Bool × ObT)} {k:Nat} {ds:List Dyn},a5y ρ hp k objs = some ds → ∀ rest,(B6 k objs (ds ++ rest)).2 = rest ∧ (B6 k objs (ds ++ rest)).1 = (B6 k objs ds).1 ∧
  ∀ j o',look (B6 k objs ds).1 j = some o' → k ≤ j ∧ j < k + objs.length ∧ ∃ bo,objs[j - k]? = some bo ∧ (bo.2 = .gone ∧ o' = .dead ∨ ∃ id ob,ρ.at j = some id ∧ look hp id = some ob ∧ b1s ρ hp ob o')
 | [],k,ds,h,rest => by simp [a5y] at h; subst h; simp [B6,look]
 | o :: r,k,ds,h,rest => by
   simp only [a5y] at h
   split at h
   case h_2 => cases h
   rename_i d ds' hd hds
   cases h
   obtain ⟨h1,h2,h3⟩:=a7Y hd (ds' ++ rest)
   obtain ⟨g1,g2,g3⟩:=a7Y hd ds'
   obtain ⟨k1,k2,k3⟩:=a6n hds rest
   refine ⟨by simp [B6,h1,k1],by simp [B6,h1,h2,g1,g2,k2],fun j o' hj => ?_⟩
   simp only [B6,g1,g2,g9] at hj
   split at hj
   · rename_i e
     subst e
     cases hj
     exact ⟨Nat.le_refl _,by simp,o,by simp,h3⟩
   · obtain ⟨a1,a2,bo,a3,a4⟩:=k3 j o' hj
     refine ⟨by omega,by simp; omega,bo,?_,a4⟩
     rw [show j - k = (j - (k + 1)) + 1 by omega]
     simpa using a3
theorem a4p (hob:∀ id e l,look hp id = some (.frz e l) → ObR w Φ β hp id (.frz e l)) (c:Corr ρ β γ hp hp'):∀ {sts:List SlT} {vs:List SVal} {us:List Value} {ds:List Dyn},E9 w Φ β hp vs us → a1Z ρ hp sts vs = some ds →
  ∀ rest,(E8 sts (ds ++ rest)).2 = rest ∧ E9 w Φ γ hp' (E8 sts (ds ++ rest)).1 us
 | [],[],us,ds,hv,h,rest => by simp [a1Z] at h; subst h; exact ⟨rfl,hv⟩
 | [],_ :: _,us,ds,hv,h,rest => by simp [a1Z] at h
 | _ :: _,[],us,ds,hv,h,rest => by simp [a1Z] at h
 | st :: r,v :: vs,us,ds,⟨u,us',e,h1,h2⟩,h,rest => by
   subst e
   simp only [a1Z] at h
   split at h
   case h_2 => cases h
   rename_i d ds' hd hds
   cases h
   have one:(N9 st (d ++ (ds' ++ rest))).2 = ds' ++ rest ∧ SVR w Φ γ hp' (N9 st (d ++ (ds' ++ rest))).1 u:=by
    unfold c9j at hd
    split at hd
    · rename_i l x
      obtain ⟨a1,a2,a3⟩:=I1 hd (ds' ++ rest)
      have a4:=I2 hob c (lts:=[l]) (ls:=[x]) (us:=[u]) ⟨u,[],rfl,h1,rfl⟩ hd
      rw [← a2] at a4
      simp only [B0,List.append_nil] at a1 a4
      refine ⟨by simp [N9,a1],?_⟩
      simp only [N9]
      have hl:=o6 a4
      match hh:(S4 l (d ++ (ds' ++ rest))).1,hl,a4 with
      | [y],_,a4 => obtain ⟨q,qs,e,g1,g2⟩:=a4; cases e; exact g1
    · rename_i ls xs
      obtain ⟨vs',e,h1⟩:=h1
      obtain ⟨a1,a2,a3⟩:=I1 hd (ds' ++ rest)
      have a4:=I2 hob c h1 hd
      rw [← a2] at a4
      exact ⟨by simp [N9,a1],vs',e,by simpa [N9] using a4⟩
    · cases hd
      exact ⟨rfl,trivial⟩
    · cases hd
   obtain ⟨k1,k2⟩:=a4p hob c h2 hds rest
   simp only [E8,List.append_assoc,one.1]
   exact ⟨k1,u,us',rfl,one.2,k2⟩
def a0s (w:World) (γ:Loc) (hp:List (Nat × SObj)) (b:Nat):Prop:=(∃ id ob p,look hp id = some ob ∧ ob.owned = true ∧ γ id = some (some (b,p))) ∨ ∃ id ob,look hp id = some ob ∧ F7 w γ id ob b
structure InstR (w:World) (Φ:Nat → Prop) (T:Tm) (ds:List Dyn) (M4:List Value) (γ:Loc):Prop where
 M4:E9 w Φ γ (T.heap ds) (T.M4 ds) M4
 hp:HpR w Φ γ ⟨[],T.heap ds,T.objs.length,[]⟩
theorem a2U:∀ {l:List Nat} {x:Nat},has l x = true ↔ x ∈ l
 | [],x => by simp [has]
 | k :: r,x => by
   simp only [has]
   cases hb:Nat.beq k x with
   | true => simp [Nat.eq_of_beq_eq_true hb]
   | false =>
     have:x ≠ k:=fun e => by subst e; rw [Nat.beq_refl] at hb; cases hb
     simp [a2U (l:=r),this]
theorem a2i:∀ {l:List Nat},b1P l = true → l.Nodup
 | [],_ => List.nodup_nil
 | x :: r,h => by
   simp only [b1P,and_eq_true,Bool.not_eq_true'] at h
   refine List.nodup_cons.2 ⟨fun hm => ?_,a2i h.2⟩
   rw [a2U.2 hm] at h; cases h.1
theorem a8e {s:St}:∀ {l:List Nat},b6h s l = true → ∀ id ∈ l,s.held id = false
 | [],_,id,h => by cases h
 | x :: r,h,id,hm => by
   simp only [b6h,and_eq_true,Bool.not_eq_true'] at h
   rcases List.mem_cons.1 hm with e | hm
   · subst e; exact h.1
   · exact a8e h.2 id hm
theorem R2:∀ {ρ:Rho} {k id:Nat},ρ.at k = some id → id ∈ D2 ρ
 | [],k,id,h => by simp [Rho.at,nth] at h
 | some x :: r,0,id,h => by simp [Rho.at,nth] at h; subst h; simp [D2]
 | none :: r,0,id,h => by simp [Rho.at,nth] at h
 | some x :: r,k + 1,id,h => List.mem_cons_of_mem _ (R2 (ρ:=r) (k:=k) (by simpa [Rho.at,nth] using h))
 | none :: r,k + 1,id,h => R2 (ρ:=r) (k:=k) (by simpa [Rho.at,nth] using h)
theorem a4W:∀ {ρ:Rho} {k j id:Nat},(D2 ρ).Nodup → ρ.at k = some id → ρ.at j = some id → k = j
 | [],k,j,id,_,h,_ => by simp [Rho.at,nth] at h
 | x :: r,0,0,id,_,_,_ => rfl
 | some x :: r,0,j + 1,id,hn,h,h' => by
   simp [Rho.at,nth] at h
   subst h
   exact absurd (R2 (ρ:=r) (k:=j) (by simpa [Rho.at,nth] using h')) (List.nodup_cons.1 hn).1
 | some x :: r,k + 1,0,id,hn,h',h => by
   simp [Rho.at,nth] at h
   subst h
   exact absurd (R2 (ρ:=r) (k:=k) (by simpa [Rho.at,nth] using h')) (List.nodup_cons.1 hn).1
 | none :: r,0,j + 1,id,hn,h,h' => by simp [Rho.at,nth] at h
 | none :: r,k + 1,0,id,hn,h,h' => by simp [Rho.at,nth] at h'
 | some x :: r,k + 1,j + 1,id,hn,h,h' => by
   have:=a4W (ρ:=r) (k:=k) (j:=j) (List.nodup_cons.1 hn).2 (by simpa [Rho.at,nth] using h) (by simpa [Rho.at,nth] using h')
   omega
 | none :: r,k + 1,j + 1,id,hn,h,h' => by
   have:=a4W (ρ:=r) (k:=k) (j:=j) hn (by simpa [Rho.at,nth] using h) (by simpa [Rho.at,nth] using h')
   omega
theorem b5t:∀ {ρ:Rho} {k id:Nat},ρ.at k = some id → k < ρ.length
 | [],k,id,h => by simp [Rho.at,nth] at h
 | x :: r,0,id,h => by simp
 | x :: r,k + 1,id,h => by have:=b5t (ρ:=r) (k:=k) (by simpa [Rho.at,nth] using h); simp; omega
theorem c0p {s:St} {T:Tm} {vs:List SVal} {us:List Value} {a b:List Dyn} (hh:HpR w Φ β s) (hv:E9 w Φ β s.heap vs us) (ha:a5y ρ s.heap 0 T.objs = some a) (hb:a1Z ρ s.heap T.slots vs = some b)
  (hn:(D2 ρ).Nodup) (hl:ρ.length ≤ T.objs.length):InstR w Φ T (a ++ b) us (fun k => (ρ.at k).bind β) ∧
    (∀ k id,ρ.at k = some id → ∀ r,rowOf (look (T.heap (a ++ b)) k) = some r → rowOf (look s.heap id) = some r) ∧
    (∀ k o',look (T.heap (a ++ b)) k = some o' → k < T.objs.length ∧ ∃ bo,T.objs[k]? = some bo ∧ (bo.2 = .gone ∧ o' = .dead ∨ ∃ id ob,ρ.at k = some id ∧ look s.heap id = some ob ∧ ob.owned = true ∧ o'.owned = true ∧ (o'.C6 = true → o' = ob))):=by
 obtain ⟨h1,h2,h3⟩:=a6n ha b
 have hheap:T.heap (a ++ b) = (B6 0 T.objs a).1:=h2
 have hvals:T.M4 (a ++ b) = (E8 T.slots b).1:=by unfold Tm.M4; rw [h1]
 have hob:∀ id e l,look s.heap id = some (.frz e l) → ObR w Φ β s.heap id (.frz e l):=fun id e l h => hh.ob id _ h
 have hγ:∀ k id,ρ.at k = some id → (fun k => (ρ.at k).bind β) k = β id:=fun k id h => by simp [h]
 have hrow:∀ k id,ρ.at k = some id → ∀ r,rowOf (look (T.heap (a ++ b)) k) = some r → rowOf (look s.heap id) = some r:=by
  intro k id hk r hr
  rw [hheap] at hr
  cases hlk:look (B6 0 T.objs a).1 k with
  | none => rw [hlk] at hr; cases hr
  | some o' =>
    rw [hlk] at hr
    obtain ⟨_,_,bo,_,hc⟩:=h3 k o' hlk
    rcases hc with ⟨_,hd⟩ | ⟨id',ob,g1,g2,g3⟩
    · subst hd; cases hr
    · rw [hk] at g1; cases g1; rw [g2,← g3.row]; exact hr
 have c:Corr ρ β (fun k => (ρ.at k).bind β) s.heap (T.heap (a ++ b)):=⟨hγ,hrow⟩
 have hinfo:∀ k o',look (T.heap (a ++ b)) k = some o' → k < T.objs.length ∧ ∃ bo,T.objs[k]? = some bo ∧ (bo.2 = .gone ∧ o' = .dead ∨ ∃ id ob,ρ.at k = some id ∧ look s.heap id = some ob ∧ b1s ρ s.heap ob o'):=by
  intro k o' hk
  rw [hheap] at hk
  obtain ⟨_,g2,bo,g3,g4⟩:=h3 k o' hk
  exact ⟨by omega,bo,by simpa using g3,g4⟩
 have hrl:∀ k o' c,look (T.heap (a ++ b)) k = some o' → F7 w (fun k => (ρ.at k).bind β) k o' c → ∃ id ob,ρ.at k = some id ∧ look s.heap id = some ob ∧ F7 w β id ob c:=by
  intro k o' c hk hc
  obtain ⟨_,bo,_,h4⟩:=hinfo k o' hk
  rcases h4 with ⟨_,hd⟩ | ⟨id,ob,g1,g2,g3⟩
  · subst hd; exact absurd hc (n9 rfl)
  · cases hir:o'.C6 with
    | false => exact absurd hc (n9 hir)
    | true =>
      have:=g3.rows hir
      subst this
      exact ⟨id,_,g1,g2,M7 (w:=w) (w':=w) (by simp [g1]) (fun _ _ _ => rfl) hc⟩
 refine ⟨⟨?_,⟨?_,?_,?_,?_,?_,hh.flt,?_,?_⟩⟩,hrow,fun k o' hk => ?_⟩
 · rw [hvals]
   have:=(a4p hob c hv hb []).2
   simpa using this
 · intro k o' hk
   obtain ⟨_,bo,_,hc⟩:=hinfo k o' hk
   rcases hc with ⟨_,hd⟩ | ⟨id,ob,g1,g2,g3⟩
   · subst hd; trivial
   · have ho:=hh.ob id ob g2
     rcases g3 with ⟨cs,lts,d,rfl,e2,rfl⟩ | ⟨cs,lts,d,rfl,e2,rfl⟩ | ⟨e,l,rfl,rfl⟩ | ⟨kk,v,ag,l,rfl,rfl⟩ | ⟨hir,rfl⟩ | ⟨e,pre,cs,post,lts,d,rfl,e2,rfl⟩
     · obtain ⟨b,vs,k1,k2,k3,k4,k5⟩:=ho
       exact ⟨b,vs,by simp [g1,k1],k2,k3,k4,I2 hob c k5 e2⟩
     · obtain ⟨b,vs,k1,k2,k3,k4,k5⟩:=ho
       exact ⟨b,vs,by simp [g1,k1],k2,k3,k4,I2 hob c k5 e2⟩
     · rcases ho with ⟨k1,k2⟩ | ⟨b,o,k1,k2,k3,k4⟩
       · exact .inl ⟨by simp [g1,k1],k2⟩
       · exact .inr ⟨b,o,by simp [g1,k1],k2,k3,k4⟩
     · obtain ⟨b,es,cl,k1,k2⟩:=ho
       exact ⟨b,es,cl,by simp [g1,k1],k2⟩
     · cases o' with
       | rows e l g => obtain ⟨b,o,hs,k1,k2⟩:=ho; exact ⟨b,o,hs,by simp [g1,k1],k2⟩
       | mrows k e l g => obtain ⟨b,es,cl,k1,k2⟩:=ho; exact ⟨b,es,cl,by simp [g1,k1],k2⟩
       | _ => cases hir
     · obtain ⟨b,o,vs,k1,k2,k3,k4,k5,k6,k7,k8⟩:=ho
       exact ⟨b,o,vs,by simp [g1,k1],k2,k3,k4,k5,I2 hob c k6 e2,k7,k8⟩
 · intro k x hk
   cases hr:ρ.at k with
   | none => simp [hr] at hk
   | some id => exact Nat.lt_of_lt_of_le (b5t hr) hl
 · intro k o' hk
   exact (hinfo k o' hk).1
 · intro k k' o o' b p p' hk hk' ho ho' hb hb'
   obtain ⟨_,bo,_,hc⟩:=hinfo k o hk
   obtain ⟨_,bo',_,hc'⟩:=hinfo k' o' hk'
   rcases hc with ⟨_,hd⟩ | ⟨id,ob,g1,g2,g3⟩
   · subst hd; cases ho
   rcases hc' with ⟨_,hd⟩ | ⟨id',ob',g1',g2',g3'⟩
   · subst hd; cases ho'
   simp only [g1,g1',Option.bind_some] at hb hb'
   have:=hh.inj id id' ob ob' b p p' g2 g2' g3.owned.2 g3'.owned.2 hb hb'
   subst this
   exact a4W hn g1 g1'
 · intro k b p hk
   cases hr:ρ.at k with
   | none => simp [hr] at hk
   | some id => exact hh.blt id b p (by simpa [hr] using hk)
 · intro k o' c hk hc
   obtain ⟨id,ob,g1,g2,g3⟩:=hrl k o' c hk hc
   obtain ⟨k1,k2,k3⟩:=hh.rin id ob c g2 g3
   refine ⟨k1,k2,fun k' o2 p hk' ho' hb => ?_⟩
   obtain ⟨_,bo',_,hc'⟩:=hinfo k' o2 hk'
   rcases hc' with ⟨_,hd⟩ | ⟨id',ob',g1',g2',g3'⟩
   · subst hd; cases ho'
   · exact k3 id' ob' p g2' g3'.owned.2 (by simpa [g1'] using hb)
 · intro k k' o o' c hk hk' hc hc'
   obtain ⟨id,ob,g1,g2,g3⟩:=hrl k o c hk hc
   obtain ⟨id',ob',g1',g2',g3'⟩:=hrl k' o' c hk' hc'
   have:=hh.rinj id id' ob ob' c g2 g2' g3 g3'
   subst this
   exact a4W hn g1 g1'
 · obtain ⟨g1,bo,g2,hc⟩:=hinfo k o' hk
   refine ⟨g1,bo,g2,?_⟩
   rcases hc with hc | ⟨id,ob,e1,e2,e3⟩
   · exact .inl hc
   · exact .inr ⟨id,ob,e1,e2,e3.owned.2,e3.owned.1,e3.rows⟩
end
section
variable {w0:World} {Φ0 own0:Nat → Prop} {N:Frm} {w w':World} {Φ Φ':Nat → Prop} {β β' β2:Loc} {a:Act} {objs:List (Bool × ObT)}
theorem Q8:∀ {ρ:Rho} {k id j i:Nat},ρ.at k = some id → (ρ.bind j i).at k = some id
 | [],k,id,j,i,h => by simp [Rho.at,nth] at h
 | some x :: r,0,id,0,i,h => by simpa [Rho.bind,Rho.at,nth] using h
 | none :: r,0,id,0,i,h => by simp [Rho.at,nth] at h
 | x :: r,0,id,j + 1,i,h => by simpa [Rho.bind,Rho.at,nth] using h
 | some x :: r,k + 1,id,0,i,h => by simpa [Rho.bind,Rho.at,nth] using h
 | none :: r,k + 1,id,0,i,h => by simpa [Rho.bind,Rho.at,nth] using h
 | x :: r,k + 1,id,j + 1,i,h => by
   have:=Q8 (ρ:=r) (k:=k) (j:=j) (i:=i) (by simpa [Rho.at,nth] using h)
   simpa [Rho.bind,Rho.at,nth] using this
theorem a0X:∀ {xs ys:List (Option Nat)} {ρ:Rho} {k id:Nat},ρ.at k = some id → (M9 ρ xs ys).at k = some id
 | [],_,ρ,k,id,h => by simpa [M9] using h
 | some j :: r,[],ρ,k,id,h => by simpa [M9] using h
 | some j :: r,none :: s,ρ,k,id,h => by simpa [M9] using h
 | some j :: r,some i :: s,ρ,k,id,h => by simp only [M9]; exact a0X (Q8 h)
 | none :: r,[],ρ,k,id,h => by simpa [M9] using h
 | none :: r,x :: s,ρ,k,id,h => by simp only [M9]; exact a0X h
structure Prep (w:World) (Φ:Nat → Prop) (β:Loc) (p:PS) (β':Loc) (p':PS):Prop where
 mono:Mono w Φ β p.s.heap w Φ β' p'.s.heap
 env:p'.s.env = p.s.env
 hold:p'.s.hold = p.s.hold
 old:∀ id ob,look p.s.heap id = some ob → (∀ e l,ob ≠ .arr e l) → look p'.s.heap id = some ob
 rho:∀ k id,p.ρ.at k = some id → p'.ρ.at k = some id
 gh:(∀ id ∈ p.g,β id = some none) → ∀ id ∈ p'.g,β' id = some none
theorem Mono.refl (w:World) (Φ:Nat → Prop) (β:Loc) (hp:List (Nat × SObj)):Mono w Φ β hp w Φ β hp:=⟨fun _ _ => rfl,fun _ h => h,fun _ _ h => h,fun _ _ _ _ h => h,fun _ _ _ _ _ _ => rfl⟩
theorem Prep.refl (β:Loc) (p:PS):Prep w Φ β p β p:=⟨.refl ..,rfl,rfl,fun _ _ h _ => h,fun _ _ h => h,fun h => h⟩
theorem Prep.bind (β:Loc) (p:PS) (ρ:Rho) (h:∀ k id,p.ρ.at k = some id → ρ.at k = some id):Prep w Φ β p β { p with ρ:=ρ }:=⟨.refl ..,rfl,rfl,fun _ _ h _ => h,h,fun h => h⟩
theorem Prep.frz (β:Loc) (p:PS) (f:List Nat):Prep w Φ β p β { p with f:=f }:=⟨.refl ..,rfl,rfl,fun _ _ h _ => h,fun _ _ h => h,fun h => h⟩
theorem Prep.trans {p p' p2:PS} (h:Prep w Φ β p β' p') (k:Prep w Φ β' p' β2 p2):Prep w Φ β p β2 p2 :=
 ⟨h.mono.trans k.mono,k.env.trans h.env,k.hold.trans h.hold,fun id ob g g' => k.old id ob (h.old id ob g g') g',fun j i g => k.rho j i (h.rho j i g),fun g => k.gh (h.gh g)⟩
theorem b3d {s:St} (hr:Rel w0 Φ0 own0 N w Φ β s a) (e:CT):Rel w0 Φ0 own0 N w Φ (β.at s.next none) (s.new (.arr e [])) a ∧ Mono w Φ β s.heap w Φ (β.at s.next none) (s.new (.arr e [])).heap :=
 ⟨hr.a7E (.arr e []) rfl none (fun _ _ h => by cases h) (.inl ⟨by simp [Loc.at],rfl⟩),a1g hr.hp _ _⟩
theorem b0T {s:St} {id:Nat}:Mono w Φ β s.heap w Φ β (s.put id .dead).heap:=by
 refine ⟨fun _ _ => rfl,fun _ h => h,fun _ _ h => h,?_,fun _ _ _ _ _ _ => rfl⟩
 intro j x hx r hrr
 simp only [St.put,g9] at hrr
 split at hrr
 · cases hrr
 · exact hrr
theorem b0a {s:St} (hr:Rel w0 Φ0 own0 N w Φ β s a) {id:Nat} {e:CT} {l:List e.denote} {r:Nat × Nat} {u:Value} (hl:look s.heap id = some (.arr e l)) (hh:s.held id = false) (hsz:0 < e.size) (hv:LfR w Φ β s.heap (.sl id (some r)) u) :
  ∃ β',Rel w0 Φ0 own0 N w Φ β' ((s.put id .dead).new (.arr e (sub l (some r)))) a ∧ Mono w Φ β s.heap w Φ β' ((s.put id .dead).new (.arr e (sub l (some r)))).heap ∧
   LfR w Φ β' ((s.put id .dead).new (.arr e (sub l (some r)))).heap (.sl s.next none) u:=by
 have hgive:=hr.d6x rfl hl rfl hh
 have hfree:∀ b' p,β id = some (some (b',p)) → (∀ id' ob q,look (s.put id .dead).heap id' = some ob → ob.owned = true → β id' ≠ some (some (b',q))) ∧ b' < w.heap.size ∧ (own0 b' ∨ w0.heap.size ≤ b'):=by
  intro b' p hp
  refine ⟨fun id' ob q hl' ho' hq => ?_,hr.hp.blt id b' p hp,hr.a9U hh hl rfl hp⟩
  simp only [St.put,g9] at hl'
  split at hl'
  · cases hl'; cases ho'
  · rename_i hne; exact hne (hr.hp.inj id id' _ _ b' p q hl hl' rfl ho' hp hq)
 obtain ⟨loc,hloc,hsh,hs⟩:=hv
 have hsl:=hs e.size l.length (by rw [hl]; rfl)
 have hm:=(b0T (w:=w) (Φ:=Φ) (β:=β) (s:=s) (id:=id)).trans (a1g hgive.hp (.arr e (sub l (some r))) none)
 have empty:sub l (some r) = [] → (∃ z,u = .slice z 0 0) → ∃ β',Rel w0 Φ0 own0 N w Φ β' ((s.put id .dead).new (.arr e (sub l (some r)))) a ∧ Mono w Φ β s.heap w Φ β' ((s.put id .dead).new (.arr e (sub l (some r)))).heap ∧
   LfR w Φ β' ((s.put id .dead).new (.arr e (sub l (some r)))).heap (.sl s.next none) u:=by
  intro h1 h2
  refine ⟨β.at s.next none,hgive.a7E (.arr e (sub l (some r))) rfl none (fun _ _ h => by cases h) (.inl ⟨by simp [Loc.at,St.put],h1⟩),hm,none,by simp [Loc.at],hsh,fun sz n hrw => ?_⟩
  simp only [St.new,St.put,g9,if_true,rowOf] at hrw
  cases hrw
  exact ⟨h2,by rw [h1]; rfl,by rw [h1]; rfl⟩
 cases loc with
 | none =>
   obtain ⟨h1,h2,h3⟩:=hsl
   have:l = []:=List.eq_nil_of_length_eq_zero h2
   subst this
   exact empty (by simp [sub]) h1
 | some bo =>
   obtain ⟨b,o⟩:=bo
   obtain ⟨o',cap,e1,e2,e3,e4,e5,_⟩:=hsl
   simp only [Option.getD_some] at e1 e2 e3 e4
   have hlen:=a1v l (some r) (by simpa using e4)
   simp only [Option.getD_some] at hlen
   by_cases hc:cap = 0
   · have h0:r.2 = 0:=by omega
     exact empty (List.eq_nil_of_length_eq_zero (by rw [hlen,h0])) ⟨_,by rw [e1,h0,hc]⟩
   · have h3:o' = o + r.1 * e.size:=by rcases e3 with e3 | e3; exact e3; exact absurd e3 hc
     have h5:o' + cap * e.size = m0 w b:=by rcases e5 with e5 | e5; exact e5; exact absurd e5 hc
     rcases hr.hp.ob id _ hl with ⟨g1,_⟩ | ⟨b',p',g1,hnΦ,hfz,hrow⟩
     · rw [hloc] at g1; cases g1
     rw [hloc] at g1; cases g1
     have hrow':H8 w Φ e b o' (sub l (some r)):=by
      intro j xx hj
      obtain ⟨us,k1,k2⟩:=hrow _ xx (a5a l (some r) j xx hj)
      refine ⟨us,?_,k2⟩
      rw [h3]
      simpa [Nat.add_mul,Nat.add_assoc] using k1
     have hm2:=(b0T (w:=w) (Φ:=Φ) (β:=β) (s:=s) (id:=id)).trans (a1g hgive.hp (.arr e (sub l (some r))) (some (b,o')))
     refine ⟨β.at s.next (some (b,o')),hgive.a7E (.arr e (sub l (some r))) rfl (some (b,o')) (fun b' p hbp => by cases hbp; obtain ⟨q1,q2,q3⟩:=hfree b o hloc; exact ⟨q1,q2,q3,c9l hr hl rfl hloc (fun _ _ => rfl)⟩) (.inr ⟨b,o',by simp [Loc.at,St.put],hnΦ,hfz,hrow'⟩),hm2,
      some (b,o'),by simp [Loc.at],hsh,fun sz n hrw => ?_⟩
     simp only [St.new,St.put,g9,if_true,rowOf] at hrw
     cases hrw
     exact ⟨o',cap,by rw [e1]; simp [hlen],by simp [hlen]; omega,.inl (by simp),by simp,.inl h5,fun _ => ⟨rfl,h5,hsz⟩⟩
theorem b3H {lt:LT} {l:Leaf} {u:Value} {p:PS} (hr:Rel w0 Φ0 own0 N w Φ β p.s a) (hg:∀ id ∈ p.g,β id = some none) (hv:LfR w Φ β p.s.heap l u) :
  ∃ β',Rel w0 Φ0 own0 N w Φ β' (a6A objs lt l p).2.s a ∧ Prep w Φ β p β' (a6A objs lt l p).2 ∧ LfR w Φ β' (a6A objs lt l p).2.s.heap (a6A objs lt l p).1 u:=by
 unfold a6A
 split
 · exact ⟨β,hr,.bind _ _ _ (fun _ _ => Q8),hv⟩
 · exact ⟨β,hr,.bind _ _ _ (fun _ _ => Q8),hv⟩
 · exact ⟨β,hr,.bind _ _ _ (fun _ _ => Q8),hv⟩
 · rename_i k id r
   split
   · rename_i e l hk hl
     cases hc:(p.s.held id || !Nat.blt 0 e.size) with
     | true => exact ⟨β,hr,.refl ..,hv⟩
     | false =>
       simp only [Bool.or_eq_false_iff,Bool.not_eq_false'] at hc
       obtain ⟨β',g1,g2,g3⟩:=b0a hr hl hc.1 (by rw [← Nat.blt_eq]; exact hc.2) hv
       refine ⟨β',g1,⟨g2,rfl,rfl,fun j ob hj hne => ?_,fun _ _ => Q8,fun h j hj => g2.loc _ _ (h j hj)⟩,g3⟩
       have h1:j ≠ p.s.next:=fun e => by subst e; rw [hr.hp.b0O] at hj; cases hj
       have h2:j ≠ id:=fun e => by subst e; rw [hl] at hj; cases hj; exact hne _ _ rfl
       show look ((p.s.put id .dead).new _).heap j = _
       simp only [St.new,St.put,g9]
       rw [if_neg (fun e => h1 e.symm),if_neg (fun e => h2 e.symm)]
       exact hj
   · exact ⟨β,hr,.refl ..,hv⟩
 · rename_i k
   split
   · rename_i id hk
     cases hc:has p.g id with
     | false => exact ⟨β,hr,.refl ..,hv⟩
     | true =>
       refine ⟨β,hr,.refl ..,none,hg id (a2U.1 hc),⟨_,_,_,hv⟩,fun sz n hrw => ?_⟩
       have hv':u = .slice none 0 0:=hv
       replace hrw:rowOf (look p.s.heap id) = some (sz,n):=hrw
       cases hl:look p.s.heap id with
       | none => rw [hl] at hrw; cases hrw
       | some ob =>
         have hob:=hr.hp.ob id ob hl
         have hb:=hg id (a2U.1 hc)
         rw [hl] at hrw
         have h0:n = 0:=by
          cases ob with
          | dead => cases hrw
          | box cs => cases hrw
          | map _ _ _ _ => cases hrw
          | mrows _ _ _ _ => cases hrw
          | rows e l g => obtain ⟨b,o,hs,k1,_⟩:=hob; rw [hb] at k1; cases k1
          | zip e l cs q => obtain ⟨b,o,hs,k1,_⟩:=hob; rw [hb] at k1; cases k1
          | cells cs => obtain ⟨b,vs,k1,_⟩:=hob; rw [hb] at k1; cases k1
          | arr e l =>
            rcases hob with ⟨_,k2⟩ | ⟨b,o,k1,_⟩
            · subst k2; cases hrw; rfl
            · rw [hb] at k1; cases k1
          | frz e l =>
            rcases hob with ⟨_,k2⟩ | ⟨b,o,k1,_⟩
            · subst k2; cases hrw; rfl
            · rw [hb] at k1; cases k1
         subst h0
         exact ⟨⟨none,hv'⟩,rfl,rfl⟩
   · split
     · rename_i bb e hk
       obtain ⟨g1,g2⟩:=b3d hr e
       refine ⟨_,g1,⟨g2,rfl,rfl,fun j ob hj hne => ?_,fun _ _ => Q8,fun h j hj => ?_⟩,none,by simp [Loc.at],⟨_,_,_,hv⟩,fun sz n hrw => ?_⟩
       · have h1:j ≠ p.s.next:=fun e => by subst e; rw [hr.hp.b0O] at hj; cases hj
         show look (p.s.new _).heap j = _
         simp only [St.new,g9]
         rw [if_neg (fun e => h1 e.symm)]
         exact hj
       · rcases List.mem_cons.1 hj with e1 | hj
         · subst e1; simp [Loc.at]
         · exact g2.loc _ _ (h j hj)
       · simp only [St.new,g9,if_true,rowOf] at hrw
         cases hrw
         exact ⟨⟨none,hv⟩,rfl,rfl⟩
     · exact ⟨β,hr,.refl ..,hv⟩
 · exact ⟨β,hr,.bind _ _ _ (fun _ _ h => a0X (a0X h)),hv⟩
 · exact ⟨β,hr,.bind _ _ _ (fun _ _ => Q8),hv⟩
 · exact ⟨β,hr,.bind _ _ _ (fun _ _ => Q8),hv⟩
 · exact ⟨β,hr,.bind _ _ _ (fun _ _ => Q8),hv⟩
 · exact ⟨β,hr,.refl ..,hv⟩
theorem a5k {hp hp':List (Nat × SObj)} (m:Mono w Φ β hp w' Φ' β' hp'):∀ {l:List SVal} {v:List Value},E9 w Φ β hp l v → E9 w' Φ' β' hp' l v
 | [],_,h => h
 | l :: ls,_,⟨v,vs',e,h1,h2⟩ => ⟨v,vs',e,M8 m _ _ h1,a5k m h2⟩
theorem b8M {β:Loc} {hp:List (Nat × SObj)} {ls:List Leaf} {us:List Value} (n:Nat) (h1:v8 w Φ β hp (ls.take n) (us.take n)) (m:List Leaf) (h2:v8 w Φ β hp m (us.drop n)):v8 w Φ β hp (ls.take n ++ m) us:=by
 have:=a7y h1 h2
 rwa [List.take_append_drop] at this
theorem O0:∀ {lts:List LT} {ls:List Leaf} {us:List Value} {p:PS} {β:Loc},Rel w0 Φ0 own0 N w Φ β p.s a → (∀ id ∈ p.g,β id = some none) → v8 w Φ β p.s.heap ls us →
  ∃ β',Rel w0 Φ0 own0 N w Φ β' (E4 objs lts ls p).2.s a ∧ Prep w Φ β p β' (E4 objs lts ls p).2 ∧ v8 w Φ β' (E4 objs lts ls p).2.s.heap (E4 objs lts ls p).1 us
 | [],ls,us,p,β,hr,hg,hv => ⟨β,hr,.refl ..,hv⟩
 | lt :: r,ls,us,p,β,hr,hg,hv => by
   simp only [E4]
   split
   · rename_i t ht
     obtain ⟨β',g1,g2,g3⟩:=O0 (lts:=r) (p:={ p with f:=b4d (ls.take t.size) ++ p.f }) hr hg (L2 t.size hv)
     refine ⟨β',g1,(Prep.frz β p _).trans g2,?_⟩
     exact b8M t.size (B1 g2.mono _ _ (L3 t.size hv)) _ g3
   · cases ls with
     | nil => exact ⟨β,hr,.refl ..,hv⟩
     | cons l ls =>
       obtain ⟨u,us',e,h1,h2⟩:=hv
       subst e
       obtain ⟨β1,g1,g2,g3⟩:=b3H (objs:=objs) (lt:=lt) hr hg h1
       obtain ⟨β2,k1,k2,k3⟩:=O0 (lts:=r) g1 (g2.gh hg) (B1 g2.mono _ _ h2)
       exact ⟨β2,k1,g2.trans k2,u,us',rfl,a7x k2.mono _ _ g3,k3⟩
theorem b2c {st:SlT} {v:SVal} {u:Value} {p:PS} (hr:Rel w0 Φ0 own0 N w Φ β p.s a) (hg:∀ id ∈ p.g,β id = some none) (hv:SVR w Φ β p.s.heap v u) :
  ∃ β',Rel w0 Φ0 own0 N w Φ β' (a2o objs st v p).2.s a ∧ Prep w Φ β p β' (a2o objs st v p).2 ∧ SVR w Φ β' (a2o objs st v p).2.s.heap (a2o objs st v p).1 u:=by
 unfold a2o
 split
 · rename_i l x
   obtain ⟨β',g1,g2,g3⟩:=O0 (objs:=objs) (lts:=[l]) (ls:=[x]) (us:=[u]) hr hg ⟨u,[],rfl,hv,rfl⟩
   split
   · rename_i x' hx
     rw [hx] at g3
     obtain ⟨q,qs,e,h1,h2⟩:=g3
     cases e
     exact ⟨β',g1,g2,h1⟩
   · exact ⟨β,hr,.refl ..,hv⟩
 · obtain ⟨vs,e,h1⟩:=hv
   obtain ⟨β',g1,g2,g3⟩:=O0 (objs:=objs) hr hg h1
   exact ⟨β',g1,g2,vs,e,g3⟩
 · exact ⟨β,hr,.refl ..,hv⟩
theorem a3y:∀ {sts:List SlT} {vs:List SVal} {us:List Value} {p:PS} {β:Loc},Rel w0 Φ0 own0 N w Φ β p.s a → (∀ id ∈ p.g,β id = some none) → E9 w Φ β p.s.heap vs us →
  ∃ β',Rel w0 Φ0 own0 N w Φ β' (a0a objs sts vs p).2.s a ∧ Prep w Φ β p β' (a0a objs sts vs p).2 ∧ E9 w Φ β' (a0a objs sts vs p).2.s.heap (a0a objs sts vs p).1 us
 | [],vs,us,p,β,hr,hg,hv => by cases vs <;> exact ⟨β,hr,.refl ..,hv⟩
 | st :: r,[],us,p,β,hr,hg,hv => ⟨β,hr,.refl ..,hv⟩
 | st :: r,v :: vs,us,p,β,hr,hg,⟨u,us',e,h1,h2⟩ => by
   subst e
   obtain ⟨β1,g1,g2,g3⟩:=b2c (objs:=objs) (st:=st) hr hg h1
   obtain ⟨β2,k1,k2,k3⟩:=a3y (sts:=r) g1 (g2.gh hg) (a5k g2.mono h2)
   exact ⟨β2,k1,g2.trans k2,u,us',rfl,M8 k2.mono _ _ g3,k3⟩
structure Mk (mk:List Leaf → SObj) (q:Nat):Prop where
 nr:∀ cs,(mk cs).C6 = false
 ow:∀ cs,(mk cs).owned = true
 na:∀ cs e l,mk cs ≠ .arr e l
 row:∀ cs cs',cs.length = cs'.length → rowOf (some (mk cs)) = rowOf (some (mk cs'))
 ob:∀ (w:World) (Φ:Nat → Prop) (β:Loc) (hp:List (Nat × SObj)) (id:Nat) (cs:List Leaf),ObR w Φ β hp id (mk cs) → ∃ b o us,β id = some (some (b,o)) ∧ m5 w b (o + q) us ∧ v8 w Φ β hp cs us ∧
  ∀ hp' cs',Mono w Φ β hp w Φ β hp' → v8 w Φ β hp' cs' us → ObR w Φ β hp' id (mk cs')
theorem Mk.box:Mk .box 0:=⟨fun _ => rfl,fun _ => rfl,fun _ _ _ h => (by cases h),fun _ _ _ => rfl,fun w Φ β hp id cs h => by
 obtain ⟨b,vs,k1,k2,k3,k4,k5⟩:=h
 exact ⟨b,0,vs,k1,k4,k5,fun hp' cs' m h' => ⟨b,vs,k1,k2,k3,k4,h'⟩⟩⟩
theorem Mk.cells:Mk .cells 0:=⟨fun _ => rfl,fun _ => rfl,fun _ _ _ h => (by cases h),fun _ _ h => (by simp [rowOf,h]),fun w Φ β hp id cs h => by
 obtain ⟨b,vs,k1,k2,k3,k4,k5⟩:=h
 exact ⟨b,0,vs,k1,k4,k5,fun hp' cs' m h' => ⟨b,vs,k1,k2,k3,k4,h'⟩⟩⟩
theorem Mk.zip (e:CT) (pre post:List e.denote):Mk (fun cs => .zip e pre cs post) (pre.length * e.size):=⟨fun _ => rfl,fun _ => rfl,fun _ _ _ h => (by cases h),fun _ _ _ => rfl,fun w Φ β hp id cs h => by
 obtain ⟨b,o,vs,k1,k2,k3,k4,k5,k6,k7,k8⟩:=h
 exact ⟨b,o,vs,k1,k5,k6,fun hp' cs' m h' => ⟨b,o,vs,k1,k2,k3,k4,k5,h',k7,k8⟩⟩⟩
theorem b5K {s:St} (hr:Rel w0 Φ0 own0 N w Φ β s a) {id q:Nat} {mk:List Leaf → SObj} (hmk:Mk mk q) {cs cs':List Leaf} (hl:look s.heap id = some (mk cs)) (hh:s.held id = false)
  (h:∀ b o us,β id = some (some (b,o)) → m5 w b (o + q) us → v8 w Φ β s.heap cs us → v8 w Φ β s.heap cs' us):Rel w0 Φ0 own0 N w Φ β (s.put id (mk cs')) a ∧ Mono w Φ β s.heap w Φ β (s.put id (mk cs')).heap:=by
 obtain ⟨b,o,us,k1,k4,k5,kf⟩:=hmk.ob _ _ _ _ _ _ (hr.hp.ob id _ hl)
 have h':=h b o us k1 k4 k5
 have hlen:rowOf (some (mk cs')) = rowOf (some (mk cs)):=hmk.row _ _ (by rw [← o6 h',← o6 k5])
 have m:Mono w Φ β s.heap w Φ β (s.put id (mk cs')).heap:=by
  refine ⟨fun _ _ => rfl,fun _ h => h,fun _ _ h => h,?_,fun _ _ _ _ _ _ => rfl⟩
  intro j x hx r hrr
  simp only [St.put,g9] at hrr
  split at hrr
  · rename_i e; subst e; rw [hl,← hlen]; exact hrr
  · exact hrr
 exact ⟨hr.b4n (hmk.nr _) (hmk.nr _) hl (.inl (hmk.ow _)) hh w Φ hr.same rfl (fun _ h => h) (fun _ h => .inl h) (fun _ _ _ => rfl) (fun _ _ => rfl) (fun _ _ => rfl) (.inl hlen) (kf _ _ m (B1 m _ _ h')),m⟩
theorem a1o {id q:Nat} {mk:List Leaf → SObj} (hmk:Mk mk q) {lts:List LT} {cs:List Leaf} {p:PS} (hr:Rel w0 Φ0 own0 N w Φ β p.s a) (hg:∀ id ∈ p.g,β id = some none) (hl:look p.s.heap id = some (mk cs)) :
  ∃ β',Rel w0 Φ0 own0 N w Φ β' (a0n objs id mk lts cs p).s a ∧ Mono w Φ β p.s.heap w Φ β' (a0n objs id mk lts cs p).s.heap ∧ (a0n objs id mk lts cs p).s.env = p.s.env ∧ (a0n objs id mk lts cs p).s.hold = p.s.hold ∧
   (∀ k id',p.ρ.at k = some id' → (a0n objs id mk lts cs p).ρ.at k = some id') ∧ (∀ id' ∈ (a0n objs id mk lts cs p).g,β' id' = some none):=by
 obtain ⟨b,o,us,hb,hc,hus,_⟩:=hmk.ob _ _ _ _ _ _ (hr.hp.ob id _ hl)
 obtain ⟨β',g1,g2,g3⟩:=O0 (objs:=objs) (lts:=lts) hr hg hus
 unfold a0n
 cases hcond:(Nat.beq (E4 objs lts cs p).2.n p.n || p.s.held id) with
 | true => exact ⟨β',g1,g2.mono,g2.env,g2.hold,g2.rho,g2.gh hg⟩
 | false =>
   simp only [Bool.or_eq_false_iff] at hcond
   have hl':=g2.old id _ hl (fun e l => hmk.na _ e l)
   have hh':(E4 objs lts cs p).2.s.held id = false:=by unfold St.held at *; rw [g2.hold]; exact hcond.2
   obtain ⟨k1,k2⟩:=b5K (cs':=(E4 objs lts cs p).1) g1 hmk hl' hh' (fun b' o' us' hb' hc' h' => by
    rw [g2.mono.loc _ _ hb] at hb'
    cases hb'
    have:us' = us:=a1V hc' hc (by rw [o6 h',o6 hus])
    subst this
    exact g3)
   exact ⟨β',k1,g2.mono.trans k2,g2.env,g2.hold,g2.rho,g2.gh hg⟩
theorem C7:∀ {l:List (Bool × ObT)} {k:Nat} {p:PS} {β:Loc},Rel w0 Φ0 own0 N w Φ β p.s a → (∀ id ∈ p.g,β id = some none) →
  ∃ β',Rel w0 Φ0 own0 N w Φ β' (F9 objs k l p).s a ∧ Mono w Φ β p.s.heap w Φ β' (F9 objs k l p).s.heap ∧ (F9 objs k l p).s.env = p.s.env ∧ (F9 objs k l p).s.hold = p.s.hold ∧
   (∀ j id,p.ρ.at j = some id → (F9 objs k l p).ρ.at j = some id)
 | [],k,p,β,hr,hg => ⟨β,hr,.refl ..,rfl,rfl,fun _ _ h => h⟩
 | o :: r,k,p,β,hr,hg => by
   simp only [F9]
   split
   · rename_i id hid
     split
     · rename_i ls cs ho hl
       obtain ⟨β1,g1,g2,g3,g4,g5,g6⟩:=a1o (objs:=objs) Mk.box (lts:=ls) hr hg hl
       obtain ⟨β2,k1,k2,k3,k4,k5⟩:=C7 (l:=r) (k:=k + 1) g1 g6
       exact ⟨β2,k1,g2.trans k2,k3.trans g3,k4.trans g4,fun j i h => k5 j i (g5 j i h)⟩
     · rename_i ls cs ho hl
       obtain ⟨β1,g1,g2,g3,g4,g5,g6⟩:=a1o (objs:=objs) Mk.cells (lts:=ls) hr hg hl
       obtain ⟨β2,k1,k2,k3,k4,k5⟩:=C7 (l:=r) (k:=k + 1) g1 g6
       exact ⟨β2,k1,g2.trans k2,k3.trans g3,k4.trans g4,fun j i h => k5 j i (g5 j i h)⟩
     · exact C7 (l:=r) (k:=k + 1) (p:={ p with f:=id :: p.f }) hr hg
     · exact C7 (l:=r) (k:=k + 1) (p:={ p with f:=id :: p.f }) hr hg
     · rename_i e' ls e pre cs post ho hl
       obtain ⟨β1,g1,g2,g3,g4,g5,g6⟩:=a1o (objs:=objs) (Mk.zip e pre post) (lts:=ls) hr hg hl
       obtain ⟨β2,k1,k2,k3,k4,k5⟩:=C7 (l:=r) (k:=k + 1) g1 g6
       exact ⟨β2,k1,g2.trans k2,k3.trans g3,k4.trans g4,fun j i h => k5 j i (g5 j i h)⟩
     · exact C7 (l:=r) (k:=k + 1) hr hg
   · exact C7 (l:=r) (k:=k + 1) hr hg
theorem b4p {s:St} (hr:Rel w0 Φ0 own0 N w Φ β s a) {id:Nat} {e:CT} {pre:List e.denote} {cs:List Leaf} {post:List e.denote} (hl:look s.heap id = some (.zip e pre cs post)) (hh:s.held id = false) :
  ∃ Φ',Rel w0 Φ0 own0 N w Φ' β (unzip id e pre cs post s) a ∧ Mono w Φ β s.heap w Φ' β (unzip id e pre cs post s).heap ∧ (unzip id e pre cs post s).env = s.env ∧ (unzip id e pre cs post s).hold = s.hold:=by
 unfold unzip
 split
 case h_2 => exact ⟨Φ,hr,.refl ..,rfl,rfl⟩
 rename_i y s' hp
 obtain ⟨b,o,us,k1,k2,k3,k4,k5,k6,k7,k8⟩:=hr.hp.ob id _ hl
 obtain ⟨Φ',p1,p2,p3⟩:=L7 hr k6 hp
 split
 case h_2 => exact ⟨Φ',p1,p2.mono,p2.env,p2.hold⟩
 rename_i e2 pre2 cs2 post2 hl2
 have hl2':=p2.look id _ hl2 rfl
 rw [hl] at hl2'
 cases hl2'
 have hh':s'.held id = false:=by unfold St.held at *; rw [p2.hold]; exact hh
 obtain ⟨b',o',us',q1,q2,q3,q4,q5,q6,q7,q8⟩:=p1.hp.ob id _ hl2
 rw [k1] at q1; cases q1
 have hus:us' = us:=a1V q5 k5 (by rw [q7,k7])
 subst hus
 have hrow:rowOf (some (.arr e (pre ++ y :: post))) = rowOf (some (.zip e pre cs post)):=by simp [rowOf]; omega
 have m:Mono w Φ' β s'.heap w Φ' β (s'.put id (.arr e (pre ++ y :: post))).heap:=by
  refine ⟨fun _ _ => rfl,fun _ h => h,fun _ _ h => h,?_,fun _ _ _ _ _ _ => rfl⟩
  intro j x hx r hrr
  simp only [St.put,g9] at hrr
  split at hrr
  · rename_i e; subst e; rw [hl2,← hrow]; exact hrr
  · exact hrr
 refine ⟨Φ',p1.b4n rfl rfl hl2 (.inl rfl) hh' w Φ' p1.same rfl (fun _ h => h) (fun _ h => .inl h) (fun _ _ _ => rfl) (fun _ _ => rfl) (fun _ _ => rfl) (.inl hrow) (.inr ⟨b,o,k1,q2,q3,fun i x hx => ?_⟩),p2.mono.trans m,p2.env,p2.hold⟩
 rw [nth_getElem?] at hx
 rcases Nat.lt_trichotomy i pre.length with h | h | h
 · rw [List.getElem?_append_left h] at hx
   exact q4 i x (by rw [nth_getElem?]; exact hx)
 · subst h
   rw [List.getElem?_append_right (Nat.le_refl _),Nat.sub_self] at hx
   cases hx
   exact ⟨us',q5,p3⟩
 · rw [List.getElem?_append_right (by omega),show i - pre.length = (i - pre.length - 1) + 1 by omega,List.getElem?_cons_succ] at hx
   obtain ⟨vs,v1,v2⟩:=q8 _ x (by rw [nth_getElem?]; exact hx)
   refine ⟨vs,?_,v2⟩
   rw [Nat.add_assoc,← Nat.add_mul,show pre.length + 1 + (i - pre.length - 1) = i by omega] at v1
   exact v1
theorem E1:∀ {ids:List Nat} {s:St} {Φ:Nat → Prop},Rel w0 Φ0 own0 N w Φ β s a → ∃ Φ',Rel w0 Φ0 own0 N w Φ' β (a3l ids s) a ∧ Mono w Φ β s.heap w Φ' β (a3l ids s).heap ∧ (a3l ids s).env = s.env ∧ (a3l ids s).hold = s.hold
 | [],s,Φ,hr => ⟨Φ,hr,.refl ..,rfl,rfl⟩
 | id :: r,s,Φ,hr => by
   simp only [a3l]
   split
   · rename_i e l hl
     cases hh:s.held id with
     | true => exact E1 (ids:=r) hr
     | false =>
       obtain ⟨Φ1,g1,g2,_⟩:=hr.freeze hl hh
       obtain ⟨Φ2,k1,k2,k3,k4⟩:=E1 (ids:=r) g1
       exact ⟨Φ2,k1,g2.mono.trans k2,k3,k4⟩
   · rename_i e l hl
     cases hh:s.held id with
     | true => exact E1 (ids:=r) hr
     | false =>
       obtain ⟨Φ1,g1,g2⟩:=hr.c3H hl hh
       obtain ⟨Φ2,k1,k2,k3,k4⟩:=E1 (ids:=r) g1
       exact ⟨Φ2,k1,g2.trans k2,k3,k4⟩
   · rename_i k e l hl
     cases hh:s.held id with
     | true => exact E1 (ids:=r) hr
     | false =>
       obtain ⟨Φ1,g1,g2⟩:=hr.c3G hl hh
       obtain ⟨Φ2,k1,k2,k3,k4⟩:=E1 (ids:=r) g1
       exact ⟨Φ2,k1,g2.trans k2,k3,k4⟩
   · rename_i e pre cs post hl
     cases hh:s.held id with
     | true => exact E1 (ids:=r) hr
     | false =>
       obtain ⟨Φ1,g1,g2,g3,g4⟩:=b4p hr hl hh
       obtain ⟨Φ2,k1,k2,k3,k4⟩:=E1 (ids:=r) g1
       exact ⟨Φ2,k1,g2.trans k2,k3.trans g3,k4.trans g4⟩
   · exact E1 (ids:=r) hr
theorem a3W:∀ {ρ:Rho} {id:Nat},id ∈ D2 ρ → ∃ k,ρ.at k = some id
 | [],id,h => by simp [D2] at h
 | some x :: r,id,h => by
   rcases List.mem_cons.1 h with e | h
   · subst e; exact ⟨0,rfl⟩
   · obtain ⟨k,hk⟩:=a3W (ρ:=r) h; exact ⟨k + 1,by simpa [Rho.at,nth] using hk⟩
 | none :: r,id,h => by obtain ⟨k,hk⟩:=a3W (ρ:=r) h; exact ⟨k + 1,by simpa [Rho.at,nth] using hk⟩
structure PackR (w0:World) (Φ0 own0:Nat → Prop) (N:Frm) (w:World) (Φ:Nat → Prop) (β:Loc) (s:St) (a:Act) (T:Tm) (ρ0:Rho) (us:List Value) (ds:List Dyn) (ρ:Rho) (s1:St) (Φ1:Nat → Prop) (β1:Loc):Prop where
 rel:Rel w0 Φ0 own0 N w Φ1 β1 s1 a
 inst:InstR w Φ1 T ds us (fun k => (ρ.at k).bind β1)
 row:∀ k id,ρ.at k = some id → ∀ r,rowOf (look (T.heap ds) k) = some r → rowOf (look s1.heap id) = some r
 obj:∀ k o',look (T.heap ds) k = some o' → k < T.objs.length ∧ ∃ bo,T.objs[k]? = some bo ∧ (bo.2 = .gone ∧ o' = .dead ∨ ∃ id ob,ρ.at k = some id ∧ look s1.heap id = some ob ∧ ob.owned = true ∧ o'.owned = true ∧ (o'.C6 = true → o' = ob))
 mono:Mono w Φ β s.heap w Φ1 β1 s1.heap
 env:s1.env = s.env
 hold:s1.hold = s.hold
 rho:∀ k id,ρ0.at k = some id → ρ.at k = some id
 nodup:(D2 ρ).Nodup
 len:ρ.length ≤ T.objs.length
 free:∀ id ∈ D2 ρ,s1.held id = false
theorem b3F {s:St} (hr:Rel w0 Φ0 own0 N w Φ β s a) {T:Tm} {ρ0:Rho} {vs:List SVal} {us:List Value} {q:Packed0} (hv:E9 w Φ β s.heap vs us) (h:c1E T ρ0 vs s = some q) :
  ∃ Φ1 β1,PackR w0 Φ0 own0 N w Φ β s a T ρ0 us q.ds q.ρ q.s Φ1 β1:=by
 unfold c1E at h
 obtain ⟨β1,g1,g2,g3⟩:=a3y (objs:=T.objs) (sts:=T.slots) (p:={ s:=s,ρ:=ρ0 }) hr (fun id h => by cases h) hv
 generalize hps:a0a T.objs T.slots vs { s:=s,ρ:=ρ0 } = ps at *
 obtain ⟨vs',p0⟩:=ps
 simp only at h g1 g2 g3
 obtain ⟨β2,k1,k2,k3,k4,k5⟩:=C7 (objs:=T.objs) (l:=T.objs) (k:=0) g1 (g2.gh (fun id h => by cases h))
 generalize hp:F9 T.objs 0 T.objs p0 = p at *
 obtain ⟨Φ3,l1,l2,l3,l4⟩:=E1 (ids:=p.f) k1
 generalize hs1:a3l p.f p.s = s1 at *
 split at h
 case h_2 => cases h
 rename_i x y hx hy
 obtain ⟨hb,h⟩:=e8 h
 cases h
 simp only [and_eq_true] at hb
 have hv':=a5k (k2.trans l2) g3
 obtain ⟨m1,m2,m3⟩:=c0p l1.hp hv' hx hy (a2i hb.1) (Nat.le_of_ble_eq_true hb.2.2)
 exact ⟨Φ3,β2,⟨l1,m1,m2,m3,(g2.mono.trans k2).trans l2,by rw [l3,k3,g2.env],by rw [l4,k4,g2.hold],fun k id hk => k5 k id (g2.rho k id hk),a2i hb.1,Nat.le_of_ble_eq_true hb.2.2,a8e hb.2.1⟩⟩
theorem I5 {s s1:St} (hr:Rel w0 Φ0 own0 N w Φ β s a) {T:Tm} {ρ0 ρ:Rho} {vs:List SVal} {us:List Value} {d:T.ct.denote} (hv:E9 w Φ β s.heap vs us) (h:a4I T ρ0 vs s = some (d,ρ,s1)) :
  ∃ Φ1 β1,PackR w0 Φ0 own0 N w Φ β s a T ρ0 us (l8 T.cts d) ρ s1 Φ1 β1:=by
 unfold a4I at h
 split at h
 case h_2 => cases h
 rename_i q hq
 split at h
 case h_2 => cases h
 rename_i d' hd
 cases h
 rw [a9F hd]
 exact b3F hr hv hq
end
def D6 (T:Tm) (k:Nat):Prop:=∃ o,nth T.objs k = some (true,o)
structure PostR (w:World) (Φ:Nat → Prop) (γ:Loc) (T:Tm) (ds:List Dyn) (w':World) (Φ':Nat → Prop) (γ':Loc) (T':Tm) (ds':List Dyn):Prop where
 same:Same w (a0s w γ (T.heap ds)) w'
 mem:∀ b,a0s w' γ' (T'.heap ds') b → a0s w γ (T.heap ds) b ∨ w.heap.size ≤ b
 sub:∀ b,Φ b → Φ' b
 fro:∀ b,Φ' b → Φ b ∨ a0s w γ (T.heap ds) b ∨ w.heap.size ≤ b
 keep:∀ k,D6 T k → Kept w γ (T.heap ds) w' γ' (T'.heap ds') k
section
variable {w0:World} {Φ0 own0:Nat → Prop} {N:Frm} {w w':World} {Φ Φ' Φ1:Nat → Prop} {β β1 γ γ':Loc} {s s1:St} {a:Act} {hp hp':List (Nat × SObj)} {f:Nat → Nat}
theorem a4a (h:∀ k x,γ k = some x → β (f k) = some x):∀ (l:List (Option Nat)) (vs:List Value),a5g γ l vs → a5g β (b2i f l) vs
 | [],_,g => g
 | none :: r,_,⟨v,vs',e,g1,g2⟩ => ⟨v,vs',e,g1,a4a h r vs' g2⟩
 | some id :: r,_,⟨v,vs',e,⟨b,g1,g3⟩,g2⟩ => ⟨v,vs',e,⟨b,h _ _ g1,g3⟩,a4a h r vs' g2⟩
theorem b5T (h:∀ k x,γ k = some x → β (f k) = some x) (hr:∀ k r,rowOf (look hp (f k)) = some r → rowOf (look hp' k) = some r):∀ (l:Leaf) (v:Value),LfR w Φ γ hp' l v → LfR w Φ β hp (d2P f l) v
 | .undef,_,g => g
 | .int _ _,_,g => g
 | .bool _,_,g => g
 | .str _,_,g => g
 | .list _ _,_,g => g
 | .clist _ _,_,g => g
 | .nils,_,g => g
 | .ptr id off,v,⟨b,h1,h2⟩ => ⟨b,h _ _ h1,h2⟩
 | .eptr id i off,v,⟨loc,h1,hp,h2⟩ => ⟨loc,h _ _ h1,hp,fun sz n hrw => h2 sz n (hr _ _ hrw)⟩
 | .vptr _ _ _,_,g => g
 | .sl id r,v,⟨loc,h1,hs,h2⟩ => ⟨loc,h _ _ h1,hs,fun sz n hrw => h2 sz n (hr _ _ hrw)⟩
 | .fn g xs ys,v,⟨us,vs,h1,h2,h3⟩ => ⟨us,vs,h1,a4a h _ _ h2,a4a h _ _ h3⟩
 | .ifp t id off,v,⟨b,h1,h2⟩ => ⟨b,h _ _ h1,h2⟩
 | .ifi _ _ _,_,g => g
 | .pan _ _ _,_,g => g
 | .mp id,v,⟨b,h1,h2⟩ => ⟨b,h _ _ h1,h2⟩
 | .nilp,_,g => g
 | .nilf,_,g => g
 | .nili,_,g => g
 | .nilm,_,g => g
 | .anyb,_,g => g
theorem a1O (h:∀ k x,γ k = some x → β (f k) = some x) (hr:∀ k r,rowOf (look hp (f k)) = some r → rowOf (look hp' k) = some r):∀ (l:List Leaf) (v:List Value),v8 w Φ γ hp' l v → v8 w Φ β hp (a6I f l) v
 | [],_,g => g
 | l :: ls,_,⟨v,vs',e,h1,h2⟩ => ⟨v,vs',e,b5T h hr l v h1,a1O h hr ls vs' h2⟩
theorem c2S (h:∀ k x,γ k = some x → β (f k) = some x) (hr:∀ k r,rowOf (look hp (f k)) = some r → rowOf (look hp' k) = some r) (x:SVal) (v:Value) (hx:∀ ps,x ≠ .tup ps) (g:SVR w Φ γ hp' x v):SVR w Φ β hp (d9i f x) v:=by
 cases x with
 | one l => exact b5T h hr l v g
 | agg cs => obtain ⟨vs,e,g⟩:=g; exact ⟨vs,e,a1O h hr _ _ g⟩
 | tup ps => exact absurd rfl (hx ps)
 | skip => exact g
theorem a6q:∀ {sts:List SlT} {ds:List Dyn} (v:SVal),v ∈ (E8 sts ds).1 → ∀ ps,v ≠ .tup ps
 | [],ds,v,h => by simp [E8] at h
 | st :: r,ds,v,h => by
   simp only [E8,List.mem_cons] at h
   rcases h with h | h
   · subst h
     cases st <;> intro ps e <;> simp [N9] at e
   · exact a6q v h
theorem b2D (h:∀ k x,γ k = some x → β (f k) = some x) (hr:∀ k r,rowOf (look hp (f k)) = some r → rowOf (look hp' k) = some r):∀ (x:List SVal) (v:List Value),(∀ y ∈ x,∀ ps,y ≠ .tup ps) → E9 w Φ γ hp' x v → E9 w Φ β hp (c2m f x) v
 | [],_,_,g => g
 | l :: ls,_,hx,⟨v,vs',e,h1,h2⟩ => ⟨v,vs',e,c2S h hr l v (hx l (by simp)) h1,b2D h hr ls vs' (fun y hy => hx y (List.mem_cons_of_mem _ hy)) h2⟩
theorem b1h:∀ (l:List Leaf),(a6I f l).length = l.length
 | [] => rfl
 | _ :: l => by simp [a6I,b1h l]
theorem a9a (o:SObj):rowOf (some (a7e f o)) = rowOf (some o):=by cases o <;> simp [a7e,rowOf,b1h]
theorem b8s {o:SObj} (h:(a7e f o).C6 = true):a7e f o = o:=by cases o <;> first | rfl | cases h
theorem Q7 (o:SObj):(a7e f o).owned = o.owned:=by cases o <;> rfl
theorem Y5 {α:Type}:∀ (l m:List (Nat × α)) (k:Nat),look (l ++ m) k = (match look l k with
  | some x => some x
  | none => look m k)
 | [],m,k => rfl
 | (j,x) :: l,m,k => by
   simp only [List.cons_append,g9]
   by_cases h:j = k
   · simp only [if_pos h]
   · simp only [if_neg h]
     exact Y5 l m k
theorem a2g {α:Type}:∀ {l:List (Nat × α)} {k:Nat} {x:α},look l k = some x → (k,x) ∈ l
 | [],k,x,h => by cases h
 | (j,y) :: l,k,x,h => by
   rw [g9] at h
   split at h
   · rename_i e; subst e; cases h; simp
   · exact List.mem_cons_of_mem _ (a2g h)
theorem b0P:∀ {hp:List (Nat × SObj)} {k:Nat} {o:SObj},(∀ j ∈ hp.map (·.1),f j = f k → j = k) → look hp k = some o → look (b5s f hp) (f k) = some (a7e f o)
 | [],k,o,_,h => by cases h
 | (j,x) :: l,k,o,hinj,h => by
   rw [g9] at h
   simp only [b5s,g9]
   split at h
   · rename_i e; subst e; cases h; rw [if_pos rfl]
   · rename_i e
     rw [if_neg (fun e' => e (hinj j (by simp) e'))]
     exact b0P (fun i hi => hinj i (by simp at hi ⊢; exact .inr hi)) h
theorem a0l:∀ {hp:List (Nat × SObj)} {id:Nat} {o2:SObj},(∀ i ∈ hp.map (·.1),∀ j ∈ hp.map (·.1),f i = f j → i = j) → look (b5s f hp) id = some o2 → ∃ k o,look hp k = some o ∧ f k = id ∧ o2 = a7e f o
 | [],id,o2,_,h => by cases h
 | (j,x) :: l,id,o2,hinj,h => by
   simp only [b5s,g9] at h
   split at h
   · rename_i e; cases h; exact ⟨j,x,by simp [g9],e,rfl⟩
   · rename_i e
     obtain ⟨k,o,h1,h2,h3⟩:=a0l (fun a ha b hb => hinj a (by simp at ha ⊢; exact .inr ha) b (by simp at hb ⊢; exact .inr hb)) h
     refine ⟨k,o,?_,h2,h3⟩
     rw [g9,if_neg (fun e' => by subst e'; exact e h2)]
     exact h1
theorem a3N:∀ {l:List Nat} {id:Nat},look (b0u l) id = if id ∈ l then some .dead else none
 | [],id => by simp [b0u,look]
 | x :: r,id => by
   simp only [b0u,g9]
   by_cases e:x = id
   · subst e; simp
   · rw [if_neg e,a3N]
     by_cases h:id ∈ r
     · rw [if_pos h,if_pos (List.mem_cons_of_mem _ h)]
     · rw [if_neg h,if_neg (by simp; exact ⟨fun e' => e e'.symm,h⟩)]
theorem a4s:∀ {objs:List (Bool × ObT)} {k j:Nat} {ds:List Dyn},k ≤ j → j < k + objs.length → ∃ o,look (B6 k objs ds).1 j = some o
 | [],k,j,ds,h1,h2 => by simp at h2; omega
 | o :: r,k,j,ds,h1,h2 => by
   simp only [B6,g9]
   split
   · exact ⟨_,rfl⟩
   · exact a4s (by omega) (by simp at h2; omega)
theorem c2P {ob:SObj} {id:Nat} (h:ObR w Φ β hp id ob) (ho:ob.owned = true):∃ x,β id = some x:=by
 cases ob with
 | dead => cases ho
 | box cs => obtain ⟨b,_,h1,_⟩:=h; exact ⟨_,h1⟩
 | cells cs => obtain ⟨b,_,h1,_⟩:=h; exact ⟨_,h1⟩
 | arr e l => rcases h with ⟨h1,_⟩ | ⟨b,o,h1,_⟩ <;> exact ⟨_,h1⟩
 | frz e l => cases ho
 | map _ _ _ _ => obtain ⟨b,_,_,h1,_⟩:=h; exact ⟨_,h1⟩
 | mrows _ _ _ _ => obtain ⟨b,_,_,h1,_⟩:=h; exact ⟨_,h1⟩
 | rows _ _ _ => obtain ⟨b,_,_,h1,_⟩:=h; exact ⟨_,h1⟩
 | zip _ _ _ _ => obtain ⟨b,_,_,h1,_⟩:=h; exact ⟨_,h1⟩
theorem a1Q {ob:SObj} {id b p:Nat} (h:ObR w Φ β hp id ob) (ho:ob.owned = true) (hb:β id = some (some (b,p))):¬ Φ b:=by
 cases ob with
 | dead => cases ho
 | box cs => obtain ⟨b',_,h1,h2,_⟩:=h; rw [hb] at h1; cases h1; exact h2
 | cells cs => obtain ⟨b',_,h1,h2,_⟩:=h; rw [hb] at h1; cases h1; exact h2
 | arr e l =>
   rcases h with ⟨h1,_⟩ | ⟨b',o,h1,h2,_⟩
   · rw [hb] at h1; cases h1
   · rw [hb] at h1; cases h1; exact h2
 | frz e l => cases ho
 | map _ _ _ _ => obtain ⟨b',_,_,h1,h2,_⟩:=h; rw [hb] at h1; cases h1; exact h2
 | mrows _ _ _ _ => obtain ⟨b',_,_,h1,h2,_⟩:=h; rw [hb] at h1; cases h1; exact h2
 | rows _ _ _ => obtain ⟨b',_,_,h1,h2,_⟩:=h; rw [hb] at h1; cases h1; exact h2
 | zip _ _ _ _ => obtain ⟨b',_,_,h1,h2,_⟩:=h; rw [hb] at h1; cases h1; exact h2
theorem c2Q (h:∀ k x,γ k = some x → β (f k) = some x) (hr:∀ k r,rowOf (look hp (f k)) = some r → rowOf (look hp' k) = some r) {k:Nat} {o:SObj} (g:ObR w Φ γ hp' k o):ObR w Φ β hp (f k) (a7e f o):=by
 cases o with
 | dead => trivial
 | box cs => obtain ⟨b,vs,h1,h2,h3,h4,h5⟩:=g; exact ⟨b,vs,h _ _ h1,h2,h3,h4,a1O h hr _ _ h5⟩
 | cells cs => obtain ⟨b,vs,h1,h2,h3,h4,h5⟩:=g; exact ⟨b,vs,h _ _ h1,h2,h3,h4,a1O h hr _ _ h5⟩
 | arr e l =>
   rcases g with ⟨h1,h2⟩ | ⟨b,o,h1,h2⟩
   · exact .inl ⟨h _ _ h1,h2⟩
   · exact .inr ⟨b,o,h _ _ h1,h2⟩
 | frz e l =>
   rcases g with ⟨h1,h2⟩ | ⟨b,o,h1,h2⟩
   · exact .inl ⟨h _ _ h1,h2⟩
   · exact .inr ⟨b,o,h _ _ h1,h2⟩
 | map _ _ _ _ => obtain ⟨b,es,cl,h1,h2⟩:=g; exact ⟨b,es,cl,h _ _ h1,h2⟩
 | mrows _ _ _ _ => obtain ⟨b,es,cl,h1,h2⟩:=g; exact ⟨b,es,cl,h _ _ h1,h2⟩
 | rows _ _ _ => obtain ⟨b,o,hs,h1,h2⟩:=g; exact ⟨b,o,hs,h _ _ h1,h2⟩
 | zip _ _ _ _ => obtain ⟨b,o,vs,h1,h2,h3,h4,h5,h6,h7,h8⟩:=g; exact ⟨b,o,vs,h _ _ h1,h2,h3,h4,h5,a1O h hr _ _ h6,h7,h8⟩
theorem a6w:∀ {objs:List (Bool × ObT)} {k:Nat} {bo:Bool × ObT},a5H objs = true → objs[k]? = some bo → bo.2 ≠ .gone
 | [],k,bo,_,h => by simp at h
 | o :: r,0,bo,hn,h => by
   simp at h; subst h
   obtain ⟨x,y⟩:=o
   cases y <;> simp [a5H] at hn ⊢
 | o :: r,k + 1,bo,hn,h => by
   refine a6w (objs:=r) (k:=k) ?_ (by simpa using h)
   obtain ⟨x,y⟩:=o
   cases y <;> simp [a5H] at hn ⊢ <;> exact hn
theorem b1w {objs:List (Bool × ObT)} {ρ:Rho} {nx k id:Nat} {o:ObT} (h:nth objs k = some (true,o)) (hid:ρ.at k = some id):P4 objs ρ nx k = id:=by
 unfold P4; rw [h]; simp only [hid]
theorem b4D {T:Tm} {ρ:Rho} {nx k:Nat} (h:¬ D6 T k):P4 T.objs ρ nx k = nx + k:=by
 unfold P4
 split
 · rename_i o ho; exact absurd ⟨o,ho⟩ h
 · rfl
theorem Rel.back {T T':Tm} {ρ0 ρ:Rho} {us rs:List Value} {ds ds':List Dyn} (hp:PackR w0 Φ0 own0 N w Φ β s a T ρ0 us ds ρ s1 Φ1 β1) (hng:a5H T.objs = true) (hi:InstR w' Φ' T' ds' rs γ')
  (hpost:PostR w Φ1 (fun k => (ρ.at k).bind β1) T ds w' Φ' γ' T' ds') :
  ∃ β',Rel w0 Φ0 own0 N w' Φ' β' (a0g T ρ T' ds' s1) a ∧ Mono w Φ1 β1 s1.heap w' Φ' β' (a0g T ρ T' ds' s1).heap ∧ E9 w' Φ' β' (a0g T ρ T' ds' s1).heap (X0 T ρ T' ds' s1) rs:=by
 have hr:=hp.rel
 have ent:∀ k,k < T.objs.length → ∃ o' id ob,look (T.heap ds) k = some o' ∧ ρ.at k = some id ∧ look s1.heap id = some ob ∧ ob.owned = true ∧ o'.owned = true:=by
  intro k hk
  obtain ⟨o',ho'⟩:=a4s (objs:=T.objs) (k:=0) (j:=k) (ds:=ds) (by omega) (by omega)
  obtain ⟨_,bo,h2,h3⟩:=hp.obj k o' ho'
  rcases h3 with ⟨h3,_⟩ | ⟨id,ob,h3,h4,h5,h6⟩
  · exact absurd h3 (a6w hng h2)
  · exact ⟨o',id,ob,ho',h3,h4,h5,h6.1⟩
 have stl:∀ k,D6 T k → k < T.objs.length:=by
  rintro k ⟨o,ho⟩
  rw [nth_getElem?] at ho
  exact (List.getElem?_eq_some_iff.1 ho).1
 have hB:∀ b,a0s w (fun k => (ρ.at k).bind β1) (T.heap ds) b → ∃ k id ob,ρ.at k = some id ∧ look s1.heap id = some ob ∧ ob.owned = true ∧ s1.held id = false ∧ ((∃ p,β1 id = some (some (b,p))) ∨ F7 w β1 id ob b):=by
  rintro b (⟨k,o',p,h1,h2,h3⟩ | ⟨k,o',h1,h2⟩)
  · obtain ⟨hk,_⟩:=hp.obj k o' h1
    obtain ⟨_,id,ob,_,h5,h6,h7,_⟩:=ent k hk
    exact ⟨k,id,ob,h5,h6,h7,hp.free id (R2 h5),.inl ⟨p,by simpa [h5] using h3⟩⟩
  · obtain ⟨hk,bo,_,hc⟩:=hp.obj k o' h1
    rcases hc with ⟨_,hd⟩ | ⟨id,ob,h5,h6,h7,h8,h9⟩
    · subst hd; exact absurd h2 (n9 rfl)
    · cases hir:o'.C6 with
      | false => exact absurd h2 (n9 hir)
      | true =>
        have:=h9 hir
        subst this
        exact ⟨k,id,_,h5,h6,h7,hp.free id (R2 h5),.inr (M7 (w:=w) (w':=w) (by simp [h5]) (fun _ _ _ => rfl) h2)⟩
 have hBown:∀ b,a0s w (fun k => (ρ.at k).bind β1) (T.heap ds) b → own0 b ∨ w0.heap.size ≤ b:=by
  intro b hb
  obtain ⟨k,id,ob,h1,h2,h3,h5,h4⟩:=hB b hb
  rcases h4 with ⟨p,h4⟩ | h4
  · exact hr.a9U h5 h2 h3 h4
  · exact hr.rown id ob b h2 h4
 have hBΦ:∀ b,Φ1 b → ¬ a0s w (fun k => (ρ.at k).bind β1) (T.heap ds) b:=by
  intro b hΦ hb
  obtain ⟨k,id,ob,h1,h2,h3,h5,h4⟩:=hB b hb
  rcases h4 with ⟨p,h4⟩ | h4
  · exact a1Q (hr.hp.ob id ob h2) h3 h4 hΦ
  · exact (hr.hp.rin id ob b h2 h4).1 hΦ
 have notM:∀ id ob b p,look s1.heap id = some ob → id ∉ D2 ρ → ob.owned = true → β1 id = some (some (b,p)) → ¬ a0s w (fun k => (ρ.at k).bind β1) (T.heap ds) b:=by
  intro id ob b p hl hm ho hb hO
  obtain ⟨k,id',ob',g1,g2,g3,g5,g4⟩:=hB b hO
  rcases g4 with ⟨q,g4⟩ | g4
  · have:=hr.hp.inj id id' ob ob' b p q hl g2 ho g3 hb g4
    subst this
    exact hm (R2 g1)
  · exact (hr.hp.rin id' ob' b g2 g4).2.2 id ob p hl ho hb
 have notR:∀ id ob c,look s1.heap id = some ob → id ∉ D2 ρ → F7 w β1 id ob c → ¬ a0s w (fun k => (ρ.at k).bind β1) (T.heap ds) c:=by
  intro id ob c hl hm hc hO
  obtain ⟨k,id',ob',g1,g2,g3,g5,g4⟩:=hB c hO
  rcases g4 with ⟨q,g4⟩ | g4
  · exact (hr.hp.rin id ob c hl hc).2.2 id' ob' q g2 g3 g4
  · have:=hr.hp.rinj id id' ob ob' c hl g2 hc g4
    subst this
    exact hm (R2 g1)
 have hfrz:∀ b,Φ1 b → w'.heap[b]? = w.heap[b]?:=fun b hb => hpost.same.block b (hr.hp.flt b hb) (hBΦ b hb)
 have fst':∀ k,D6 T k → ∃ id,ρ.at k = some id ∧ P4 T.objs ρ s1.next k = id ∧ id < s1.next ∧ β1 id = γ' k ∧ ∃ x,β1 id = some x:=by
  intro k hk
  obtain ⟨o',id,ob,h1,h2,h3,h4,h5⟩:=ent k (stl k hk)
  obtain ⟨x,hx⟩:=c2P (hr.hp.ob id ob h3) h4
  obtain ⟨o,ho⟩:=hk
  refine ⟨id,h2,b1w ho h2,hr.hp.hlt id ob h3,?_,x,hx⟩
  have:=(hpost.keep k ⟨o,ho⟩).loc x (by simp [h2,hx])
  rw [this,hx]
 have fnew:∀ k,¬ D6 T k → P4 T.objs ρ s1.next k = s1.next + k:=fun k hk => b4D hk
 have finj:∀ i j,P4 T.objs ρ s1.next i = P4 T.objs ρ s1.next j → i = j:=by
  intro i j hij
  by_cases hi':D6 T i <;> by_cases hj':D6 T j
  · obtain ⟨id,h1,h2,_⟩:=fst' i hi'
    obtain ⟨id',k1,k2,_⟩:=fst' j hj'
    rw [h2,k2] at hij
    subst hij
    exact a4W hp.nodup h1 k1
  · obtain ⟨id,h1,h2,h3,_⟩:=fst' i hi'
    rw [h2,fnew j hj'] at hij; omega
  · obtain ⟨id,h1,h2,h3,_⟩:=fst' j hj'
    rw [h2,fnew i hi'] at hij; omega
  · rw [fnew i hi',fnew j hj'] at hij; omega
 let f:Nat → Nat:=P4 T.objs ρ s1.next
 let β':Loc:=fun id => if id < s1.next then β1 id else if (nth T.objs (id - s1.next)).any (·.1) then none else γ' (id - s1.next)
 have hold':∀ id,id < s1.next → β' id = β1 id:=fun id h => by simp only [β']; rw [if_pos h]
 have hnotany:∀ k,¬ D6 T k → (nth T.objs k).any (·.1) = false:=by
  intro k hk
  cases hn:nth T.objs k with
  | none => rfl
  | some bo =>
    obtain ⟨b,o⟩:=bo
    cases b with
    | false => rfl
    | true => exact absurd ⟨o,hn⟩ hk
 have hany:∀ k,(nth T.objs k).any (·.1) = false → ¬ D6 T k:=by
  rintro k h ⟨o,ho⟩
  rw [ho] at h; cases h
 have hnew':∀ k,¬ D6 T k → β' (s1.next + k) = γ' k:=fun k hk => by
  simp only [β']
  rw [if_neg (by omega),Nat.add_sub_cancel_left,hnotany k hk]
  rfl
 have hβf:∀ k,β' (f k) = γ' k:=by
  intro k
  by_cases hk:D6 T k
  · obtain ⟨id,h1,h2,h3,h4,_⟩:=fst' k hk
    show β' (P4 T.objs ρ s1.next k) = _
    rw [h2,hold' id h3,h4]
  · show β' (P4 T.objs ρ s1.next k) = _
    rw [fnew k hk,hnew' k hk]
 have hkeys:∀ i ∈ (T'.heap ds').map (·.1),∀ j ∈ (T'.heap ds').map (·.1),f i = f j → i = j:=fun i _ j _ h => finj i j h
 let hp2:=(a0g T ρ T' ds' s1).heap
 have hp2e:hp2 = b5s f (T'.heap ds') ++ (b0u (D2 ρ) ++ s1.heap):=rfl
 have cases2:∀ id o2,look hp2 id = some o2 → (∃ k o,look (T'.heap ds') k = some o ∧ f k = id ∧ o2 = a7e f o) ∨ o2 = .dead ∨ (look s1.heap id = some o2 ∧ id ∉ D2 ρ):=by
  intro id o2 h
  rw [hp2e,Y5] at h
  split at h
  · rename_i x hx
    cases h
    exact .inl (a0l hkeys hx)
  · rw [Y5,a3N] at h
    by_cases hm:id ∈ D2 ρ
    · rw [if_pos hm] at h; cases h; exact .inr (.inl rfl)
    · rw [if_neg hm] at h; exact .inr (.inr ⟨h,hm⟩)
 have lookf:∀ k o,look (T'.heap ds') k = some o → look hp2 (f k) = some (a7e f o):=by
  intro k o h
  rw [hp2e,Y5,b0P (fun j _ e => finj j k e) h]
 have hrow2:∀ k r,rowOf (look hp2 (f k)) = some r → rowOf (look (T'.heap ds') k) = some r:=by
  intro k r hrw
  cases hl:look hp2 (f k) with
  | none => rw [hl] at hrw; cases hrw
  | some o2 =>
    rw [hl] at hrw
    rcases cases2 _ _ hl with ⟨k',o,h1,h2,h3⟩ | h | ⟨h1,h2⟩
    · have:=finj k' k h2
      subst this
      rw [h3,a9a] at hrw
      rw [h1]; exact hrw
    · subst h; cases hrw
    · exfalso
      by_cases hk:D6 T k
      · obtain ⟨id,g1,g2,_⟩:=fst' k hk
        have:f k = id:=g2
        rw [this] at h2
        exact h2 (R2 g1)
      · have:f k = s1.next + k:=fnew k hk
        rw [this] at h1
        have:=hr.hp.hlt _ _ h1; omega
 have apart:∀ id ob,look s1.heap id = some ob → id ∉ D2 ρ → ∀ b p,β1 id = some (some (b,p)) → ob.owned = true ∨ (∃ e l,ob = .frz e l) → w'.heap[b]? = w.heap[b]?:=by
  intro id ob hl hm b p hb ho
  refine hpost.same.block b (hr.hp.blt _ _ _ hb) fun hB' => ?_
  rcases ho with ho | ⟨e,l,rfl⟩
  · exact notM id ob b p hl hm ho hb hB'
  · rcases hr.hp.ob id _ hl with ⟨k1,_⟩ | ⟨b',o',k1,k2,_⟩
    · rw [hb] at k1; cases k1
    · rw [hb] at k1; cases k1
      exact hBΦ _ k2 hB'
 have apartR:∀ id ob,look s1.heap id = some ob → id ∉ D2 ρ → ∀ c,F7 w β1 id ob c → w'.heap[c]? = w.heap[c]? ∧ (¬ Φ1 c → ¬ Φ' c):=by
  intro id ob hl hm c hc
  have h2:=notR id ob c hl hm hc
  obtain ⟨k1,k2,_⟩:=hr.hp.rin id ob c hl hc
  refine ⟨hpost.same.block c k2 h2,fun hn hn' => ?_⟩
  rcases hpost.fro c hn' with g | g | g
  · exact hn g
  · exact h2 g
  · omega
 have m:Mono w Φ1 β1 s1.heap w' Φ' β' hp2:=by
  refine ⟨hfrz,hpost.sub,fun id x hx => by rw [hold' id (hr.hp.lt id x hx)]; exact hx,?_,?_⟩
  · intro id x hx r hrw
    cases hl:look hp2 id with
    | none => rw [hl] at hrw; cases hrw
    | some o2 =>
      rw [hl] at hrw
      rcases cases2 _ _ hl with ⟨k,o,h1,h2,h3⟩ | h | ⟨h1,_⟩
      · by_cases hk:D6 T k
        · obtain ⟨id',g1,g2,g3,g4,x',g5⟩:=fst' k hk
          have:f k = id':=g2
          rw [h2] at this; subst this
          rw [h3,a9a] at hrw
          exact hp.row k id g1 r ((hpost.keep k hk).row x' (by simp [g1,g5]) r (by rw [h1]; exact hrw))
        · have:f k = s1.next + k:=fnew k hk
          have:=hr.hp.lt id x hx; omega
      · subst h; cases hrw
      · rw [h1]; exact hrw
  · intro id b o r hb hrw
    cases hl:look hp2 id with
    | none => rw [hl] at hrw; cases hrw
    | some o2 =>
      rw [hl] at hrw
      rcases cases2 _ _ hl with ⟨k,o',h1,h2,h3⟩ | h | ⟨h1,h2⟩
      · by_cases hk:D6 T k
        · obtain ⟨id',g1,g2,g3,g4,_⟩:=fst' k hk
          have:f k = id':=g2
          rw [h2] at this; subst this
          rw [h3,a9a] at hrw
          exact (hpost.keep k hk).bs b o r (by simp [g1,hb]) (by rw [h1]; exact hrw)
        · have:f k = s1.next + k:=fnew k hk
          have:=hr.hp.lt id _ hb; omega
      · subst h; cases hrw
      · have:o2.owned = true ∨ ∃ e l,o2 = .frz e l:=by
         cases o2 with
         | dead => cases hrw
         | box cs => exact .inl rfl
         | cells cs => exact .inl rfl
         | arr e l => exact .inl rfl
         | frz e l => exact .inr ⟨e,l,rfl⟩
         | map _ _ _ _ => exact .inl rfl
         | rows _ _ _ => exact .inl rfl
         | mrows _ _ _ _ => exact .inl rfl
         | zip _ _ _ _ => exact .inl rfl
        unfold m0
        rw [apart id o2 h1 h2 b o hb this]
 have hloc:∀ k x,γ' k = some x → β' (f k) = some x:=fun k x h => by rw [hβf]; exact h
 have hrl2:∀ id o2 c,look hp2 id = some o2 → F7 w' β' id o2 c → (∃ k o,look (T'.heap ds') k = some o ∧ f k = id ∧ F7 w' γ' k o c) ∨ (look s1.heap id = some o2 ∧ id ∉ D2 ρ ∧ F7 w β1 id o2 c):=by
  intro id o2 c hl hc
  rcases cases2 _ _ hl with ⟨k,o,h1,h2,h3⟩ | h | ⟨h1,h2⟩
  · subst h2; subst h3
    cases hir:(a7e f o).C6 with
    | false => exact absurd hc (n9 hir)
    | true =>
      rw [b8s hir] at hc
      exact .inl ⟨k,o,h1,rfl,M7 (w:=w') (w':=w') (hβf k) (fun _ _ _ => rfl) hc⟩
  · subst h; exact absurd hc (n9 rfl)
  · cases hir:o2.C6 with
    | false => exact absurd hc (n9 hir)
    | true =>
      have ho:o2.owned = true:=by cases o2 <;> first | rfl | cases hir
      exact .inr ⟨h1,h2,M7 (w:=w) (hold' id (hr.hp.hlt _ _ h1)) (fun b p hb => apart id o2 h1 h2 b p hb (.inl ho)) hc⟩
 refine ⟨β',⟨?_,⟨?_,?_,?_,?_,?_,hi.hp.flt,?_,?_⟩,?_,?_,?_,?_,hr.size,hr.fix,hr.defers,?_,hr.a8r m,?_⟩,m,?_⟩
 · exact fun t v hv => M8 m _ _ (hr.env t v hv)
 ·
  intro id o2 hl
  rcases cases2 _ _ hl with ⟨k,o,h1,h2,h3⟩ | h | ⟨h1,h2⟩
  · subst h2; subst h3
    exact c2Q hloc hrow2 (hi.hp.ob k o h1)
  · subst h; trivial
  · cases ho:o2.owned with
    | true =>
      refine V9 m (fun b p hb => apart id o2 h1 h2 b p hb (.inl ho)) (fun _ b p hb hn hn' => ?_) (apartR id o2 h1 h2) (hr.hp.ob id o2 h1)
      rcases hpost.fro b hn' with g | g | g
      · exact hn g
      · exact notM id o2 b p h1 h2 ho hb g
      · exact absurd (hr.hp.blt _ _ _ hb) (by omega)
    | false =>
      cases o2 with
      | dead => trivial
      | box cs => cases ho
      | cells cs => cases ho
      | arr e l => cases ho
      | map _ _ _ _ => cases ho
      | rows _ _ _ => cases ho
      | mrows _ _ _ _ => cases ho
      | zip _ _ _ _ => cases ho
      | frz e l =>
        rcases hr.hp.ob id _ h1 with ⟨g1,g2⟩ | ⟨b,p,g1,g2,g3⟩
        · exact .inl ⟨m.loc _ _ g1,g2⟩
        · exact .inr ⟨b,p,m.loc _ _ g1,hpost.sub b g2,H9 m (hfrz b g2) g3⟩
 · intro id x hx
   show id < s1.next + T'.objs.length
   by_cases h:id < s1.next
   · omega
   · have hx':=hx
     simp only [β'] at hx
     rw [if_neg h] at hx
     cases hc:(nth T.objs (id - s1.next)).any (·.1) with
     | true => rw [hc] at hx; cases hx
     | false =>
       rw [hc] at hx
       have:=hi.hp.lt (id - s1.next) x (by simpa using hx)
       simp only at this
       omega
 · intro id o2 hl
   show id < s1.next + T'.objs.length
   rcases cases2 _ _ hl with ⟨k,o,h1,h2,h3⟩ | h | ⟨h1,_⟩
   · by_cases hk:D6 T k
     · obtain ⟨id',g1,g2,g3,_⟩:=fst' k hk
       have:f k = id':=g2
       omega
     · have e:f k = s1.next + k:=fnew k hk
       have:=hi.hp.hlt k o h1
       simp only at this
       omega
   ·
    subst h
    replace hl:look hp2 id = some .dead:=hl
    rw [hp2e,Y5] at hl
    split at hl
    · rename_i x hx
      obtain ⟨k,o,h1,h2,h3⟩:=a0l hkeys hx
      by_cases hk:D6 T k
      · obtain ⟨id',g1,g2,g3,_⟩:=fst' k hk
        have:f k = id':=g2
        omega
      · have e:f k = s1.next + k:=fnew k hk
        have:=hi.hp.hlt k o h1
        simp only at this
        omega
    · rw [Y5,a3N] at hl
      by_cases hm:id ∈ D2 ρ
      · obtain ⟨k,hk⟩:=a3W hm
        have hkl:k < T.objs.length:=by
         have:=hp.inst.hp.lt k
         rcases Nat.lt_or_ge k T.objs.length with g | g
         · exact g
         · exfalso
           have hlen:=hp.len
           exact absurd (b5t hk) (by omega)
        obtain ⟨_,id',ob,_,h5,h6,_⟩:=ent k hkl
        rw [hk] at h5; cases h5
        have:=hr.hp.hlt _ _ h6
        omega
      · rw [if_neg hm] at hl
        have:=hr.hp.hlt _ _ hl
        omega
   · have:=hr.hp.hlt _ _ h1
     omega
 ·
  intro i j o o2 b p q h1 h2 ho1 ho2 hb hb'
  have cross:∀ {k:Nat} {ok:SObj} {id:Nat} {ob:SObj} {b p q:Nat},look (T'.heap ds') k = some ok → ok.owned = true → γ' k = some (some (b,p)) → look s1.heap id = some ob → id ∉ D2 ρ → ob.owned = true → β1 id = some (some (b,q)) → False:=by
   intro k ok id ob b p q g1 g2 g3 g4 g5 g6 g7
   rcases hpost.mem b (.inl ⟨k,ok,p,g1,g2,g3⟩) with g | g
   · exact notM id ob b q g4 g5 g6 g7 g
   · have:=hr.hp.blt _ _ _ g7; omega
  rcases cases2 _ _ h1 with ⟨k,ok,e1,e2,e3⟩ | h | ⟨e1,e2⟩
  · subst e3
    rw [Q7] at ho1
    subst e2
    rw [hβf] at hb
    rcases cases2 _ _ h2 with ⟨k',ok',e1',e2',e3'⟩ | h | ⟨e1',e2'⟩
    · subst e3'
      rw [Q7] at ho2
      subst e2'
      rw [hβf] at hb'
      rw [hi.hp.inj k k' ok ok' b p q e1 e1' ho1 ho2 hb hb']
    · subst h; cases ho2
    · rw [hold' j (hr.hp.hlt _ _ e1')] at hb'
      exact (cross e1 ho1 hb e1' e2' ho2 hb').elim
  · subst h; cases ho1
  · rw [hold' i (hr.hp.hlt _ _ e1)] at hb
    rcases cases2 _ _ h2 with ⟨k',ok',e1',e2',e3'⟩ | h | ⟨e1',e2'⟩
    · subst e3'
      rw [Q7] at ho2
      subst e2'
      rw [hβf] at hb'
      exact (cross e1' ho2 hb' e1 e2 ho1 hb).elim
    · subst h; cases ho2
    · rw [hold' j (hr.hp.hlt _ _ e1')] at hb'
      exact hr.hp.inj i j o o2 b p q e1 e1' ho1 ho2 hb hb'
 · intro id b p hb
   by_cases h:id < s1.next
   · rw [hold' id h] at hb
     exact Nat.lt_of_lt_of_le (hr.hp.blt id b p hb) hpost.same.size
   · simp only [β'] at hb
     rw [if_neg h] at hb
     cases hc:(nth T.objs (id - s1.next)).any (·.1) with
     | true => rw [hc] at hb; cases hb
     | false => rw [hc] at hb; exact hi.hp.blt _ b p (by simpa using hb)
 ·
  intro id o2 c hl hc
  rcases hrl2 id o2 c hl hc with ⟨k,o,e1,e2,e3⟩ | ⟨e1,e2,e3⟩
  · obtain ⟨k1,k2,k3⟩:=hi.hp.rin k o c e1 e3
    refine ⟨k1,k2,fun id' o' p hl' ho' hb => ?_⟩
    rcases cases2 _ _ hl' with ⟨k',ok',e1',e2',e3'⟩ | h | ⟨e1',e2'⟩
    · subst e3'; subst e2'
      rw [Q7] at ho'
      rw [hβf] at hb
      exact k3 k' ok' p e1' ho' hb
    · subst h; cases ho'
    · rw [hold' id' (hr.hp.hlt _ _ e1')] at hb
      rcases hpost.mem c (.inr ⟨k,o,e1,e3⟩) with g | g
      · exact notM id' o' c p e1' e2' ho' hb g
      · have:=hr.hp.blt _ _ _ hb; omega
  · obtain ⟨k1,k2,k3⟩:=hr.hp.rin id o2 c e1 e3
    refine ⟨(apartR id o2 e1 e2 c e3).2 k1,Nat.lt_of_lt_of_le k2 hpost.same.size,fun id' o' p hl' ho' hb => ?_⟩
    rcases cases2 _ _ hl' with ⟨k',ok',e1',e2',e3'⟩ | h | ⟨e1',e2'⟩
    · subst e3'; subst e2'
      rw [Q7] at ho'
      rw [hβf] at hb
      rcases hpost.mem c (.inl ⟨k',ok',p,e1',ho',hb⟩) with g | g
      · exact notR id o2 c e1 e2 e3 g
      · omega
    · subst h; cases ho'
    · rw [hold' id' (hr.hp.hlt _ _ e1')] at hb
      exact k3 id' o' p e1' ho' hb
 · intro i j o o2 c h1 h2 hc hc'
   rcases hrl2 i o c h1 hc with ⟨k,ok,e1,e2,e3⟩ | ⟨e1,e2,e3⟩ <;> rcases hrl2 j o2 c h2 hc' with ⟨k',ok',e1',e2',e3'⟩ | ⟨e1',e2',e3'⟩
   · rw [← e2,← e2',hi.hp.rinj k k' ok ok' c e1 e1' e3 e3']
   · rcases hpost.mem c (.inr ⟨k,ok,e1,e3⟩) with g | g
     · exact absurd g (notR j o2 c e1' e2' e3')
     · have:=(hr.hp.rin j o2 c e1' e3').2.1; omega
   · rcases hpost.mem c (.inr ⟨k',ok',e1',e3'⟩) with g | g
     · exact absurd g (notR i o c e1 e2 e3)
     · have:=(hr.hp.rin i o c e1 e3).2.1; omega
   · exact hr.hp.rinj i j o o2 c e1 e1' e3 e3'
 ·
  intro id o b p hl ho hb
  rcases cases2 _ _ hl with ⟨k,ok,e1,e2,e3⟩ | h | ⟨e1,e2⟩
  · subst e3
    rw [Q7] at ho
    subst e2
    rw [hβf] at hb
    rcases hpost.mem b (.inl ⟨k,ok,p,e1,ho,hb⟩) with g | g
    · exact (hBown b g).elim .inl (fun g => .inr (.inl g))
    · exact .inr (.inl (Nat.le_trans hr.same.size g))
  · subst h; cases ho
  · rw [hold' id (hr.hp.hlt _ _ e1)] at hb
    exact hr.own id o b p e1 ho hb
 · refine ⟨hpost.same.os.trans hr.same.os,hpost.same.tape.trans hr.same.tape,hpost.same.output.trans hr.same.output,Nat.le_trans hr.same.size hpost.same.size,fun b hb hn => ?_⟩
   rw [hpost.same.block b (Nat.lt_of_lt_of_le hb hr.same.size) (fun hm => by rcases hBown b hm with g | g; exact hn g; omega)]
   exact hr.same.block b hb hn
 · exact fun b hb => hpost.sub b (hr.fri b hb)
 · intro b hb
   rcases hpost.fro b hb with g | g | g
   · exact hr.fro b g
   · rcases hBown b g with g | g
     · exact .inr (.inl g)
     · exact .inr (.inr g)
   · exact .inr (.inr (Nat.le_trans hr.same.size g))
 · exact fun id x hx => ⟨(hr.hold id x hx).1,m.loc _ _ (hr.hold id x hx).2⟩
 · intro id o2 c hl hc
   rcases hrl2 id o2 c hl hc with ⟨k,o,e1,e2,e3⟩ | ⟨e1,e2,e3⟩
   · rcases hpost.mem c (.inr ⟨k,o,e1,e3⟩) with g | g
     · exact hBown c g
     · exact .inr (Nat.le_trans hr.same.size g)
   · exact hr.rown id o2 c e1 e3
 · exact b2D hloc hrow2 _ _ (fun y hy => a6q y hy) hi.M4
end
def a0o:List Value → Value
 | [v] => v
 | vs => .tuple vs.toArray
def O9 (K:Tm → List Dyn → Prop):(l:List Tm) → (H4 l).denote → Prop
 | [],_ => False
 | [T'],y => K T' (l8 T'.cts y)
 | T' :: b :: r,y => match y with
   | .inl a => K T' (l8 T'.cts a)
   | .inr c => O9 K (b :: r) c
theorem O9.mono {K K':Tm → List Dyn → Prop} (h:∀ T ds,K T ds → K' T ds):∀ {l:List Tm} {y:(H4 l).denote},O9 K l y → O9 K' l y
 | [],_,g => g
 | [T'],y,g => h _ _ g
 | T' :: b :: r,.inl a,g => h _ _ g
 | T' :: b :: r,.inr c,g => O9.mono h (l:=b :: r) g
def Tm.ending (T:Tm) (rs:List Value):Ending:=match T.O6 with
 | true => .panicked [{ v:=rs.headD undef,recovered:=false }]
 | false => .returned (a0o rs)
def b8L (P : Program) (cx : Cx) (f φ : Nat) : Prop := ∀ d y, cx.rf φ d = some y → (∃ fn : Func, P.funcs[f]? = some fn ∧ (fn.name == "runtime.NumGoroutine") = false ∧ fn.body.isNone = false) ∧
 ∀ (w:World) (Φ:Nat → Prop) (vs:List Value) (γ:Loc),cx.gp w Φ → InstR w Φ (cx.kin φ) (l8 (cx.kin φ).cts d) vs γ →
  Calls P f vs.toArray w fun e w' => ∃ Φ' γ' rs,O9 (fun T' ds' => e = T'.ending rs ∧ InstR w' Φ' T' ds' rs γ' ∧ PostR w Φ γ (cx.kin φ) (l8 (cx.kin φ).cts d) w' Φ' γ' T' ds') (cx.kouts φ) y
section
variable {P:Program} {R:Type} {w0:World} {Φ0 own0:Nat → Prop} {N:Frm} {w w':World} {Φ Φ':Nat → Prop} {β:Loc} {s s':St} {a:Act} {hp:List (Nat × SObj)}
variable {cx:Cx} {o:Oper} {next:Act → World → Prop} {Q:Exit → Act → World → Prop} {k:St → Option R} {r:R}
theorem a4c:∀ {l:List SVal} {u:List Value},E9 w Φ β hp l u → u.length = l.length
 | [],_,h => by cases h; rfl
 | x :: l,_,⟨v,vs,e,_,h⟩ => by subst e; simp [a4c h]
theorem a3x:∀ {vs:List SVal} {us:List Value} {ps:List (List Leaf × Bool)},partsOf vs = some ps → E9 w Φ β hp vs us → a5j w Φ β hp ps us
 | [],us,ps,h,hv => by simp [partsOf] at h; subst h; exact hv
 | v :: vs,us,ps,h,⟨u,us',e,h1,h2⟩ => by
   subst e
   simp only [partsOf] at h
   split at h
   case h_2 => cases h
   rename_i p ps' hp' hps
   cases h
   refine ⟨u,us',rfl,?_,a3x hps h2⟩
   cases v with
   | one l => cases hp'; show a0t _ _ _ _ _ _; unfold a0t; simp only [Bool.false_eq_true,if_false]; exact ⟨u,[],rfl,h1,rfl⟩
   | agg cs => cases hp'; unfold a0t; simp only [if_true]; exact h1
   | tup _ => cases hp'
   | skip => cases hp'
theorem a1H {vs:List SVal} {us:List Value} {v:SVal} (h:J5 vs = some v) (hv:E9 w Φ β hp vs us):SVR w Φ β hp v (a0o us):=by
 unfold J5 at h
 split at h
 · cases h
   obtain ⟨u,us',e,h1,h2⟩:=hv
   cases h2; subst e; exact h1
 · rename_i hne
   split at h
   case h_2 => cases h
   rename_i ps hps
   cases h
   have:a0o us = .tuple us.toArray:=by
    unfold a0o
    split
    · rename_i v'
      have:=a4c hv
      match vs,this,hne with
      | [x],_,hne => exact absurd rfl (hne x)
    · rfl
   rw [this]
   exact ⟨us.toArray,rfl,by simpa using a3x hps hv⟩
theorem R0:∀ {vs:List SVal} {us:List Value} {l:List (Option Nat)},E9 w Φ β hp vs us → a1f vs = some l → a5g β l us
 | [],us,l,h,hl => by simp [a1f] at hl; subst hl; exact h
 | v :: vs,us,l,⟨u,us',e,h1,h2⟩,hl => by
   subst e
   unfold a1f at hl
   split at hl
   · rename_i heq; cases heq
   · rename_i id r heq
     cases heq
     split at hl
     case h_2 => cases hl
     rename_i l' hl'
     cases hl
     obtain ⟨b,g1,g2⟩:=h1
     exact ⟨u,us',rfl,⟨b,g1,g2⟩,R0 h2 hl'⟩
   · rename_i r heq
     cases heq
     split at hl
     case h_2 => cases hl
     rename_i l' hl'
     cases hl
     exact ⟨u,us',rfl,h1,R0 h2 hl'⟩
   · cases hl
theorem J0:∀ {l:List (Option Nat)} {us:List Value},a5g β l us → E9 w Φ β hp (J8 l) us
 | [],_,h => h
 | none :: r,_,⟨v,vs',e,h1,h2⟩ => ⟨v,vs',e,h1,J0 h2⟩
 | some id :: r,_,⟨v,vs',e,⟨b,h1,h3⟩,h2⟩ => ⟨v,vs',e,⟨b,h1,h3⟩,J0 h2⟩
theorem a4b:∀ {l m:List SVal} {u v:List Value},E9 w Φ β hp l u → E9 w Φ β hp m v → E9 w Φ β hp (l ++ m) (u ++ v)
 | [],m,u,v,h,k => by cases h; exact k
 | x :: l,m,u,v,⟨a,us,e,h1,h2⟩,k => by subst e; exact ⟨a,us ++ v,rfl,h1,a4b h2 k⟩
theorem a2q (hr:Rel w0 Φ0 own0 N w Φ β s a) {f:Nat} {x y:Array Operand} (ho:o.op = .makeFunc (.func f) x y) (h:j6 cx o s k = some r):C2 P R (fun _ => True) w Φ β s a o k r:=by
 simp only [j6,ho] at h
 split at h
 case h_2 => cases h
 rename_i l m hl hm
 obtain ⟨v1,e1,e2⟩:=Option.bind_eq_some_iff.1 hl
 obtain ⟨v2,f1,f2⟩:=Option.bind_eq_some_iff.1 hm
 have g1:=R0 (G6 hr _ _ e1) e2
 have g2:=R0 (G6 hr _ _ f1) f2
 refine n4 h (v:=.func (.func f) (x.map a.eval) (y.map a.eval)) (fun w _ => by simp [execOp,ho,Instr.makeFunc]) ⟨_,_,rfl,?_,?_⟩
 · simpa using g1
 · simpa using g2
theorem b0d (hr:Rel w0 Φ0 own0 N w Φ β s a) (hN:∀ d,o.dst = some d → N.ok d) (hk:∀ s' a' w' Φ' β',Rel w0 Φ0 own0 N w' Φ' β' s' a' → k s' = some r → next a' w')
  {f:Nat} {x y:Array Operand} (ho:o.op = .makeFunc (.func f) x y) (h:j6 cx o s k = some r):o.wp P a w next Q :=
 (a2q hr ho h).wp hr trivial hN hk
theorem a4x {T:Tm} {ρ:Rho} {K:Tm → List Dyn → Prop} {k:SVal → St → Option R} {kp:F6 R}:∀ {l:List Tm} {y:(H4 l).denote},O9 K l y → a0k T ρ s l y k kp = some r →
  ∃ T' ds',K T' ds' ∧ a2e T ρ s T' ds' k kp = some r
 | [],_,g,_ => g.elim
 | [T'],y,g,h => ⟨_,_,g,h⟩
 | T' :: b :: r',.inl x,g,h => ⟨_,_,g,h⟩
 | T' :: b :: r',.inr x,g,h => a4x (l:=b :: r') g (by simpa only [a0k] using h)
theorem b1M {T:Tm} {ρ:Rho} {k:SVal → St → Option R} {kp:F6 R} {T':Tm} {ds':List Dyn} (h:a2e T ρ s T' ds' k kp = some r) :
  (T'.O6 = false ∧ ∃ v,J5 (X0 T ρ T' ds' s) = some v ∧ k v (a0g T ρ T' ds' s) = some r) ∨
  (T'.O6 = true ∧ ∃ t j n,X0 T ρ T' ds' s = [.one (.pan t j n)] ∧ kp t j n (a0g T ρ T' ds' s) = some r):=by
 unfold a2e at h
 split at h
 · rename_i hp
   split at h
   · rename_i v hv; exact .inl ⟨hp,v,hv,h⟩
   · cases h
 · rename_i t j n hp hb
   exact .inr ⟨hp,t,j,n,hb,h⟩
 · cases h
theorem a4y {K:Tm → List Dyn → Prop} {k:SVal → St → Option R}:∀ {l:List Tm} {y:(H4 l).denote},O9 K l y → S2 s l y k = some r →
  ∃ T' ds',K T' ds' ∧ T'.O6 = false ∧ T'.objs = [] ∧ (T'.M4 ds').all SVal.flat = true ∧ ∃ v,J5 (T'.M4 ds') = some v ∧ k v s = some r
 | [],_,g,_ => g.elim
 | [T'],y,g,h => by
   simp only [S2] at h
   obtain ⟨hb,h⟩:=e8 h
   simp only [and_eq_true,List.isEmpty_iff,Bool.not_eq_true'] at hb
   split at h
   · rename_i v hv; exact ⟨_,_,g,hb.1,hb.2.1,hb.2.2,v,hv,h⟩
   · cases h
 | T' :: b :: r',.inl x,g,h => by
   simp only [S2] at h
   obtain ⟨hb,h⟩:=e8 h
   simp only [and_eq_true,List.isEmpty_iff,Bool.not_eq_true'] at hb
   split at h
   · rename_i v hv; exact ⟨_,_,g,hb.1,hb.2.1,hb.2.2,v,hv,h⟩
   · cases h
 | T' :: b :: r',.inr x,g,h => a4y (l:=b :: r') g (by simpa only [S2] using h)
theorem b0D {β':Loc} {hp':List (Nat × SObj)}:∀ {l:Leaf} {u:Value},l.flat = true → LfR w Φ β hp l u → LfR w' Φ' β' hp' l u
 | .int _ _,_,_,h => h
 | .bool _,_,_,h => h
 | .str _,_,_,h => h
 | .undef,_,h,_ => by cases h
 | .list _ _,_,h,_ => by cases h
 | .clist _ _,_,h,_ => by cases h
 | .nils,_,h,_ => by cases h
 | .ptr _ _,_,h,_ => by cases h
 | .eptr _ _ _,_,h,_ => by cases h
 | .vptr _ _ _,_,h,_ => by cases h
 | .sl _ _,_,h,_ => by cases h
 | .fn _ _ _,_,h,_ => by cases h
 | .ifp _ _ _,_,h,_ => by cases h
 | .ifi _ _ _,_,h,_ => by cases h
 | .pan _ _ _,_,h,_ => by cases h
 | .mp _,_,h,_ => by cases h
 | .nilp,_,h,_ => by cases h
 | .nilf,_,h,_ => by cases h
 | .nili,_,h,_ => by cases h
 | .nilm,_,h,_ => by cases h
 | .anyb,_,h,_ => by cases h
theorem a8c {β':Loc} {hp':List (Nat × SObj)}:∀ {l:List Leaf} {u:List Value},l.all Leaf.flat = true → v8 w Φ β hp l u → v8 w' Φ' β' hp' l u
 | [],_,_,h => h
 | x :: l,_,hf,⟨v,vs,e,h1,h2⟩ => by
   simp only [List.all_cons,and_eq_true] at hf
   exact ⟨v,vs,e,b0D hf.1 h1,a8c hf.2 h2⟩
theorem b0E {β':Loc} {hp':List (Nat × SObj)}:∀ {l:List SVal} {u:List Value},l.all SVal.flat = true → E9 w Φ β hp l u → E9 w' Φ' β' hp' l u
 | [],_,_,h => h
 | x :: l,_,hf,⟨v,vs,e,h1,h2⟩ => by
   simp only [List.all_cons,and_eq_true] at hf
   refine ⟨v,vs,e,?_,b0E hf.2 h2⟩
   cases x with
   | one y => exact b0D (l:=y) hf.1 h1
   | agg cs => obtain ⟨us,e1,h3⟩:=h1; exact ⟨us,e1,a8c hf.1 h3⟩
   | tup _ => cases hf.1
   | skip => cases hf.1
theorem Rel.grown (hr:Rel w0 Φ0 own0 N w Φ β s a) (h:Same w (fun _ => False) w'):Rel w0 Φ0 own0 N w' Φ β s a:=by
 have hblk:∀ b,b < w.heap.size → w'.heap[b]? = w.heap[b]?:=fun b hb => h.block b hb (fun h => h)
 have m:Mono w Φ β s.heap w' Φ β s.heap:=⟨fun b hb => hblk b (hr.hp.flt b hb),fun _ h => h,fun _ _ h => h,fun _ _ _ _ h => h,fun id b o r hb _ => by
  unfold m0; rw [hblk b (hr.hp.blt id b o hb)]⟩
 have hrb:∀ {id:Nat} {o:SObj} {c:Nat},F7 w' β id o c → F7 w β id o c:=fun hc => M7 (w:=w) rfl (fun b p hb => hblk b (hr.hp.blt _ _ _ hb)) hc
 refine ⟨fun t v hv => M8 m v _ (hr.env t v hv),⟨fun id o ho => V9 m (fun b p hb => hblk b (hr.hp.blt id b p hb)) (fun _ _ _ _ h => h) (fun c hc => ⟨hblk c (hr.hp.rin id o c ho hc).2.1,fun h => h⟩) (hr.hp.ob id o ho),hr.hp.lt,hr.hp.hlt,hr.hp.inj,fun id b p hb => Nat.lt_of_lt_of_le (hr.hp.blt id b p hb) h.size,fun b hb => Nat.lt_of_lt_of_le (hr.hp.flt b hb) h.size,
   fun id o c ho hc => ⟨(hr.hp.rin id o c ho (hrb hc)).1,Nat.lt_of_lt_of_le (hr.hp.rin id o c ho (hrb hc)).2.1 h.size,(hr.hp.rin id o c ho (hrb hc)).2.2⟩,fun id id' o o' c ho ho' hc hc' => hr.hp.rinj id id' o o' c ho ho' (hrb hc) (hrb hc')⟩,
  hr.own,?_,hr.fri,hr.fro,hr.size,hr.fix,hr.defers,hr.hold,hr.a8r m,fun id o c ho hc => hr.rown id o c ho (hrb hc)⟩
 refine ⟨h.os.trans hr.same.os,h.tape.trans hr.same.tape,h.output.trans hr.same.output,Nat.le_trans hr.same.size h.size,fun b hb hn => ?_⟩
 rw [hblk b (Nat.lt_of_lt_of_le hb hr.same.size)]
 exact hr.same.block b hb hn
theorem a3o {args:List SVal} {k:SVal → St → Option R} {kp:F6 R}:∀ {l:List Nat},Z8 cx args s k kp l = some r → ∃ φ ∈ l,∃ d ρ s1 y,a3S (cx.kin φ) args s = some (d,ρ,s1) ∧ cx.rf φ d = some y ∧ (a0k (cx.kin φ) ρ s1 (cx.kouts φ) y k kp = some r ∨ ((cx.kin φ).objs = [] ∧ S2 s (cx.kouts φ) y k = some r))
 | [],h => by cases h
 | φ :: l,h => by
   simp only [Z8] at h
   split at h
   · rename_i d ρ s1 hp
     obtain ⟨y,h1,h2⟩:=Option.bind_eq_some_iff.1 h
     cases hl:cx.lend φ with
     | false => rw [hl] at h2; exact ⟨φ,by simp,d,ρ,s1,y,hp,h1,.inl h2⟩
     | true =>
       rw [hl] at h2
       obtain ⟨hb,h2⟩:=e8 h2
       exact ⟨φ,by simp,d,ρ,s1,y,hp,h1,.inr ⟨List.isEmpty_iff.1 hb,h2⟩⟩
   · obtain ⟨φ',h1,h2⟩:=a3o h
     exact ⟨φ',List.mem_cons_of_mem _ h1,h2⟩
def a3w (t:Nat) (j:IntKind) (n:Int):Exit:=.panic [{ v:=.iface t (.int j n),recovered:=false }]
theorem b2U [hG:GlobR cx.gp w0 Φ0 own0] (hf:∀ f,∀ φ ∈ cx.keys f,b8L P cx f φ) (hr:Rel w0 Φ0 own0 N w Φ β s a) (hN:∀ d,o.dst = some d → N.ok d) {kp:F6 R} (hk:∀ s' a' w' Φ' β',Rel w0 Φ0 own0 N w' Φ' β' s' a' → k s' = some r → next a' w')
  (hkp:∀ t j n s' w' Φ' β',Rel w0 Φ0 own0 N w' Φ' β' s' a → kp t j n s' = some r → Q (a3w t j n) a w')
  {f:Nat} {args:List SVal} {us:List Value} (hall:E9 w Φ β s.heap args us) (h:Z8 cx args s (fun r s' => k (s'.set o.dst r)) kp (cx.keys f) = some r)
  (hexec : ∀ fn : Func, P.funcs[f]? = some fn → (fn.name == "runtime.NumGoroutine") = false → fn.body.isNone = false → (execOp a.eval o).run P w = .ok (.enter f us.toArray) w) : o.wp P a w next Q := by
 obtain ⟨φ,hφ,d,ρ,s1,y,hpk,hy,hlv⟩:=a3o h
 unfold a3S at hpk
 obtain ⟨hng,hpk⟩:=e8 hpk
 obtain ⟨Φ1,β1,hP⟩:=I5 hr hall hpk
 obtain ⟨⟨fn,hfn1,hfn2,hfn3⟩,hcalls⟩:=hf f φ hφ d y hy
 have hcalls:=hcalls w Φ1 _ _ (hG.get hP.rel) hP.inst
 unfold Oper.wp
 rw [hexec fn hfn1 hfn2 hfn3,Oper.upon_enter]
 refine hcalls.mono fun e w' hpost => ?_
 obtain ⟨Φ',γ',rs,hout⟩:=hpost
 rcases hlv with hlv | ⟨hno,hlv⟩
 case inr =>
  obtain ⟨T',ds',⟨he,hi,hpst⟩,hpan,hobj,hflat,v,hres,hkk⟩:=a4y hout hlv
  have he:e = .returned (a0o rs):=by rw [he,Tm.ending,hpan]
  subst he
  have hown:∀ b,¬ a0s w (fun k => (ρ.at k).bind β1) ((cx.kin φ).heap (l8 (cx.kin φ).cts d)) b:=by
   rintro b (⟨id,ob,p,h1,_⟩ | ⟨id,ob,h1,_⟩) <;> simp [Tm.heap,hno,B6,look] at h1
  have hsame:Same w (fun _ => False) w':=⟨hpst.same.os,hpst.same.tape,hpst.same.output,hpst.same.size,fun b hb _ => hpst.same.block b hb (hown b)⟩
  show next (a.put o.dst (a0o rs)) w'
  exact hk _ _ _ _ _ ((hr.grown hsame).set (a1H hres (b0E hflat hi.M4)) hN) hkk
 obtain ⟨T',ds',⟨he,hi,hpst⟩,hlv⟩:=a4x hout hlv
 obtain ⟨β',k1,k2,k3⟩:=Rel.back hP hng hi hpst
 rcases b1M hlv with ⟨hpan,v,hres,hkk⟩ | ⟨hpan,t,j,n,hb,hkk⟩
 · have he:e = .returned (a0o rs):=by rw [he,Tm.ending,hpan]
   subst he
   show next (a.put o.dst (a0o rs)) w'
   exact hk _ _ _ _ _ (k1.set (a1H hres k3) hN) hkk
 · rw [hb] at k3
   obtain ⟨v,us',e1,e2,e3⟩:=k3
   cases e3
   subst e1
   have he:e = .panicked [{ v:=.iface t (.int j n),recovered:=false }]:=by
    rw [he,Tm.ending,hpan]
    have:v = .iface t (.int j n):=e2
    rw [this]; rfl
   subst he
   show Q (a3w t j n) a w'
   exact hkp _ _ _ _ _ _ _ k1 hkk
theorem b4g [hG:GlobR cx.gp w0 Φ0 own0] (hcx:CxOk P cx) (hf:∀ f,∀ φ ∈ cx.keys f,b8L P cx f φ) (hr:Rel w0 Φ0 own0 N w Φ β s a) (hN:∀ d,o.dst = some d → N.ok d) (hk:∀ s' a' w' Φ' β',Rel w0 Φ0 own0 N w' Φ' β' s' a' → k s' = some r → next a' w')
  {c:Call} (ho:o.op = .call c) {x:Operand} {name:String} (hc:c.callee = .invoke x name) (h:j6 cx o s k = some r):o.wp P a w next Q:=by
 simp only [j6,ho,hc] at h
 split at h
 · cases h
 · cases h
theorem a7O [hG:GlobR cx.gp w0 Φ0 own0] (hf:∀ f,∀ φ ∈ cx.keys f,b8L P cx f φ) (hr:Rel w0 Φ0 own0 N w Φ β s a) (hN:∀ d,o.dst = some d → N.ok d) {kp:F6 R} (hk:∀ s' a' w' Φ' β',Rel w0 Φ0 own0 N w' Φ' β' s' a' → k s' = some r → next a' w')
  (hkp:∀ t j n s' w' Φ' β',Rel w0 Φ0 own0 N w' Φ' β' s' a → kp t j n s' = some r → Q (a3w t j n) a w')
  {c:Call} (ho:o.op = .call c) {x:Operand} (hc:c.callee = .value x) {fv:SVal} {args:List SVal} (hfv:l6 s.env x = some fv) (hev:I9 s.env c.args.toList = some args) (h:a6f cx fv args s (fun r s' => k (s'.set o.dst r)) kp = some r):o.wp P a w next Q:=by
 have hargs:=G6 hr _ _ hev
 have hfr:=hr.eval hfv
 unfold a6f at h
 split at h
 case h_2 => cases h
 rename_i f xs ys
 obtain ⟨us,vs,e1,hxs,hys⟩:=hfr
 have hall:E9 w Φ β s.heap (J8 xs ++ (args ++ J8 ys)) (us.toList ++ (c.args.toList.map a.eval ++ vs.toList)):=a4b (J0 hxs) (a4b hargs (J0 hys))
 refine b2U hf hr hN hk hkp hall h fun fn hfn1 hfn2 hfn3 => ?_
 have:us ++ c.args.map a.eval ++ vs = (us.toList ++ (c.args.toList.map a.eval ++ vs.toList)).toArray:=by rw [← Array.toList_inj]; simp
 simp only [execOp,ho,resolve,hc,e1,Deferred.ofValue,Sem.run_bind,Sem.run_pure,Result.andThen_ok,invoke,callFunc,run_program,hfn1,hfn2,hfn3,this,Bool.false_eq_true,if_false]
theorem b8y [hG:GlobR cx.gp w0 Φ0 own0] (hf:∀ f,∀ φ ∈ cx.keys f,b8L P cx f φ) (hr:Rel w0 Φ0 own0 N w Φ β s a) (hN:∀ d,o.dst = some d → N.ok d) (hk:∀ s' a' w' Φ' β',Rel w0 Φ0 own0 N w' Φ' β' s' a' → k s' = some r → next a' w')
  {c:Call} (ho:o.op = .call c) {x:Operand} (hc:c.callee = .value x) (h:j6 cx o s k = some r):o.wp P a w next Q:=by
 simp only [j6,ho,hc] at h
 split at h
 case h_2 => cases h
 rename_i fv args hfv hev
 exact a7O hf hr hN hk (fun _ _ _ _ _ _ _ _ h => by cases h) ho hc hfv hev h
theorem a2j {T T':Tm} {ds ds':List Dyn} {w1:World} {Φ1 Φ2:Nat → Prop} {γ β2:Loc} {us:List Value} {ρ:Rho} {s1:St} (hkid:N.kid = D6 T) (hkw:N.kw = w) (hkβ:N.kβ = γ) (hkh:N.kh = T.heap ds)
  (hP:PackR w Φ (a0s w γ (T.heap ds)) N w1 Φ1 β s a T' (s4 0 T.objs) us ds' ρ s1 Φ2 β2):PostR w Φ γ T ds w1 Φ2 (fun k => (ρ.at k).bind β2) T' ds':=by
 have hr:=hP.rel
 refine ⟨hr.same,fun b hb => ?_,hr.fri,hr.fro,fun k hk => ?_⟩
 · rcases hb with ⟨k,o',p,h1,h2,h3⟩ | ⟨k,o',h1,h2⟩
   · obtain ⟨_,bo,_,h4⟩:=hP.obj k o' h1
     rcases h4 with ⟨_,h4⟩ | ⟨id,ob,g1,g2,g3,g4⟩
     · subst h4; cases h2
     · exact hr.a9U (hP.free id (R2 g1)) g2 g3 (by simpa [g1] using h3)
   · obtain ⟨_,bo,_,h4⟩:=hP.obj k o' h1
     rcases h4 with ⟨_,h4⟩ | ⟨id,ob,g1,g2,g3,g4,g5⟩
     · subst h4; exact absurd h2 (n9 rfl)
     · cases hir:o'.C6 with
       | false => exact absurd h2 (n9 hir)
       | true =>
         have:=g5 hir
         subst this
         exact hr.rown id _ b g2 (M7 (w:=w1) (w':=w1) (by simp [g1]) (fun _ _ _ => rfl) h2)
 · have hst:(s4 0 T.objs).at k = some k:=by
    obtain ⟨o,ho⟩:=hk
    have:∀ (l:List (Bool × ObT)) (i j:Nat),nth l i = some (true,o) → (s4 j l).at i = some (j + i):=by
     intro l
     induction l with
     | nil => intro i j h; cases h
     | cons x l ih =>
       intro i j h
       obtain ⟨b,q⟩:=x
       cases i with
       | zero => simp [nth] at h; obtain ⟨rfl,rfl⟩:=h; simp [s4,Rho.at,nth]
       | succ i =>
         have:=ih i (j + 1) (by simpa [nth] using h)
         cases b
         · simpa [s4,Rho.at,nth,Nat.add_assoc,Nat.add_comm 1 i] using this
         · simpa [s4,Rho.at,nth,Nat.add_assoc,Nat.add_comm 1 i] using this
    have:=this T.objs k 0 ho
    rwa [Nat.zero_add] at this
   have hk':=hP.rho k k hst
   have hkept:=hr.keep k (by rw [hkid]; exact hk)
   rw [hkw,hkβ,hkh] at hkept
   refine ⟨fun x hx => ?_,fun x hx r hrw => ?_,fun b o r hb hrw => ?_⟩
   · simp [hk',hkept.loc x hx]
   · exact hkept.row x hx r (hP.row k k hk' r hrw)
   · exact hkept.bs b o r hb (hP.row k k hk' r hrw)
theorem a4A {vs:List SVal}:∀ {slots:List Nat} {vs:List SVal},E9 w Φ β hp vs (slots.map fun t => a.tmps.getD t undef) → ∀ t v,look (slots.zip vs) t = some v → SVR w Φ β hp v (a.tmps.getD t undef)
 | [],vs,_,t,v,h => by simp [look] at h
 | n :: r,[],_,t,v,h => by simp [look] at h
 | n :: r,x :: vs,⟨u,us,e,h1,h2⟩,t,v,h => by
   simp only [List.map_cons,List.cons.injEq] at e
   obtain ⟨rfl,rfl⟩:=e
   simp only [List.zip_cons_cons,g9] at h
   split at h
   · rename_i e; subst e; cases h; exact h1
   · exact a4A (vs:=vs) h2 t v h
theorem a2V {T:Tm} {ds:List Dyn} {γ:Loc} {slots:List Nat} {n:Nat} {fix:Nat → Option Value} (hi:InstR w Φ T ds (slots.map fun t => a.tmps.getD t undef) γ) (hsz:a.tmps.size = n) (hfix:∀ t v,fix t = some v → a.tmps.getD t undef = v) {D:List Deferred} (hd:a.defers = D) :
  Rel w Φ (a0s w γ (T.heap ds)) ⟨n,fix,fun _ _ => False,D6 T,w,γ,T.heap ds,D⟩ w Φ γ (b7I slots T ds) a:={
 env:=a4A (vs:=T.M4 ds) hi.M4
 hp:=⟨hi.hp.ob,hi.hp.lt,hi.hp.hlt,hi.hp.inj,hi.hp.blt,hi.hp.flt,hi.hp.rin,hi.hp.rinj⟩
 own:=fun id o b p h1 h2 h3 => .inl (.inl ⟨id,o,p,h1,h2,h3⟩)
 rown:=fun id o c h1 h2 => .inl (.inr ⟨id,o,h1,h2⟩)
 same:=.refl _ _
 fri:=fun _ h => h
 fro:=fun _ h => .inl h
 size:=hsz
 fix:=hfix
 defers:=hd
 hold:=fun _ _ h => h.elim
 keep:=fun id _ => .refl .. }
theorem GlobR.enter {gp:World → (Nat → Prop) → Prop} (hm:a5f gp) (hg:gp w Φ) {T:Tm} {ds:List Dyn} {vs:List Value} {γ:Loc} (hi:InstR w Φ T ds vs γ):GlobR gp w Φ (a0s w γ (T.heap ds)):={
 mono:=hm
 at0:=hg
 out:=fun b hb => ⟨by
  rintro (⟨id,ob,p,h1,h2,h3⟩ | ⟨id,ob,h1,h2⟩)
  · exact a1Q (hi.hp.ob id ob h1) h2 h3 hb
  · exact (hi.hp.rin id ob b h1 h2).1 hb,hi.hp.flt b hb⟩ }
end
end Go.Bm
end
