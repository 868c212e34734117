import Derived.Test.YtadonikkibahnaaGreatBmC
import Derived.Laws.BytesArg
import Derived.Lib.ConvBytes
import Derived.MapKept
open Bool (and_eq_true)
section
namespace Go.Bm
set_option linter.unusedVariables false
set_option linter.unusedSimpArgs false
theorem splice_gen {α:Type} {l xs:List α} {off:Nat} (h:off + xs.length ≤ l.length) (i:Nat) :
  nth (l.take off ++ xs ++ l.drop (off + xs.length)) i = if off ≤ i ∧ i < off + xs.length then nth xs (i - off) else nth l i:=by
 simp only [nth_getElem?]
 by_cases h1:i < off
 · rw [if_neg (by omega),List.append_assoc,List.getElem?_append_left (by simp; omega),List.getElem?_take,if_pos h1]
 · by_cases h2:i < off + xs.length
   · rw [if_pos (by omega),List.append_assoc,List.getElem?_append_right (by simp; omega),List.getElem?_append_left (by simp; omega)]
     simp [Nat.min_eq_left (show off ≤ l.length by omega)]
   · rw [if_neg (by omega),List.getElem?_append_right (by simp; omega)]
     simp [Nat.min_eq_left (show off ≤ l.length by omega)]
     congr 1; omega
theorem splice_glen {α:Type} {l xs:List α} {off:Nat} (h:off + xs.length ≤ l.length):(l.take off ++ xs ++ l.drop (off + xs.length)).length = l.length:=by
 simp; omega
section
variable {P:Program} {R:Type} {w0:World} {Φ0 own0:Nat → Prop} {N:Frm} {w:World} {Φ:Nat → Prop} {β:Loc} {s:St} {a:Act}
variable {cx:Cx} {o:Oper} {next:Act → World → Prop} {Q:Exit → Act → World → Prop} {k:St → Option R} {r:R}
theorem Rel.reput (hr:Rel w0 Φ0 own0 N w Φ β s a) {id:Nat} {e:CT} {l:List e.denote} (hl:look s.heap id = some (.arr e l)) (hh:s.held id = false):Rel w0 Φ0 own0 N w Φ β (s.put id (.arr e l)) a :=
 hr.turn rfl rfl hl (.inl rfl) hh w Φ hr.same rfl (fun _ h => h) (fun _ h => .inl h) (fun _ _ _ => rfl) (fun _ _ => rfl) (fun _ _ => rfl) (.inl rfl) (hr.hp.ob id _ hl)
theorem splice_write (hr:Rel w0 Φ0 own0 N w Φ β s a) {id:Nat} {e:CT} {l xs:List e.denote} {b ob off:Nat} {vs:List Value} (hpos:0 < e.size)
  (hl:look s.heap id = some (.arr e l)) (hloc:β id = some (some (b,ob))) (hh:s.held id = false) (hle:off + xs.length ≤ l.length) (hfl:Flat w Φ e xs vs) :
  ∃ w',(storeCells ⟨b,ob + off * e.size,none⟩ vs 0).run P w = .ok () w' ∧ Rel w0 Φ0 own0 N w' Φ β (s.put id (.arr e (l.take off ++ xs ++ l.drop (off + xs.length)))) a:=by
 rcases hr.hp.ob id _ hl with ⟨h3,_⟩ | ⟨b',ob',h3,hnΦ,hfz,hrow⟩
 · rw [hloc] at h3; cases h3
 rw [hloc] at h3; cases h3
 have hlen:=hfl.1
 have hsl:=splice_glen hle
 obtain ⟨w',g1,g2⟩:=run_storeCells (P:=P) vs b (ob + off * e.size) 0 w hfl.2.1 (fun j hj => by
  have hdm:=Nat.div_add_mod j e.size
  have hm:=Nat.mod_lt j hpos
  have hj2:j / e.size < xs.length:=Nat.div_lt_of_lt_mul (by rw [hlen,Nat.mul_comm] at hj; exact hj)
  have hj3:off + j / e.size < l.length:=by omega
  obtain ⟨us,hu1,hu2⟩:=hrow (off + j / e.size) l[off + j / e.size] (by rw [nth_getElem?]; simp [hj3])
  have hul:=VC_len _ _ _ hu2
  have:=cellsAt_get us _ b hu1 (j % e.size) us[j % e.size] (by simp [hul,hm])
  rw [show ob + off * e.size + 0 + j = ob + (off + j / e.size) * e.size + j % e.size from by
   rw [Nat.add_mul]
   have h5:j / e.size * e.size + j % e.size = j:=by rw [Nat.mul_comm]; exact hdm
   omega]
  rw [this]; rfl) hfz
 rw [Nat.add_zero] at g2
 have m:=g2.mono hr.hp hnΦ (id:=id) (ob':=.arr e (l.take off ++ xs ++ l.drop (off + xs.length))) hl (by simp only [rowOf]; rw [hsl])
 refine ⟨w',g1,hr.write rfl rfl hl rfl rfl hloc hh g2 (by simp only [rowOf]; rw [hsl]) hnΦ (.inr ⟨b,ob,hloc,hnΦ,g2.fz hfz,fun j xx hj => ?_⟩)⟩
 rw [splice_gen hle] at hj
 split at hj
 · rename_i hc
   refine ⟨(vs.drop ((j - off) * e.size)).take e.size,?_,VC_mono m.frz m.sub _ _ _ (hfl.2.2 _ _ hj)⟩
   refine cellsAt_of _ _ _ fun i v hv => ?_
   rw [List.getElem?_take] at hv
   split at hv
   case isFalse => cases hv
   rename_i hi
   rw [List.getElem?_drop] at hv
   have h6:(j - off + 1) * e.size ≤ xs.length * e.size:=Nat.mul_le_mul_right _ (by omega)
   have h7:j * e.size = off * e.size + (j - off) * e.size:=by rw [← Nat.add_mul]; congr 1; omega
   rw [Nat.add_mul] at h6
   rw [g2.cell,if_pos (by omega),← hv]
   congr 1; omega
 · rename_i hc
   obtain ⟨us',hu1,hu2⟩:=hrow j xx hj
   have hul':=VC_len _ _ _ hu2
   refine ⟨us',g2.apart hu1 ?_,VC_mono m.frz m.sub _ _ _ hu2⟩
   by_cases hlt:j < off
   · left
     have:(j + 1) * e.size ≤ off * e.size:=Nat.mul_le_mul_right _ hlt
     rw [Nat.add_mul] at this; omega
   · right
     have:(off + xs.length) * e.size ≤ j * e.size:=Nat.mul_le_mul_right _ (by omega)
     rw [Nat.add_mul] at this; omega
theorem spliceK_some {id:Nat} {e:CT} {p:Option (Nat × Nat)} {xs:List e.denote} {k:St → Option R} (h:spliceK s id e p xs k = some r) :
  ∃ l:List e.denote,look s.heap id = some (.arr e l) ∧ s.held id = false ∧ (p.getD (0,l.length)).1 + xs.length ≤ l.length ∧
   k (s.put id (.arr e (l.take (p.getD (0,l.length)).1 ++ xs ++ l.drop ((p.getD (0,l.length)).1 + xs.length)))) = some r:=by
 unfold spliceK at h
 split at h
 case h_2 => cases h
 rename_i e' l hl
 split at h
 case isFalse => cases h
 rename_i he; subst he
 obtain ⟨hb,h⟩:=cond_none h
 simp only [and_eq_true] at hb
 exact ⟨l,hl,by simpa using hb.1,Nat.le_of_ble_eq_true hb.2,h⟩
theorem part_write (hr:Rel w0 Φ0 own0 N w Φ β s a) {id:Nat} {e:CT} {p:Option (Nat × Nat)} {l xs:List e.denote} {v:Value} {vs:List Value} (hpos:0 < e.size) (hv:LfR w Φ β s.heap (.sl id p) v)
  (hl:look s.heap id = some (.arr e l)) (hh:s.held id = false) (hle:(p.getD (0,l.length)).1 + xs.length ≤ l.length) (hfl:Flat w Φ e xs vs) (hx:xs.length ≤ partLen s id p) :
  ∃ base cap w',v = .slice base (partLen s id p) cap ∧ Rel w0 Φ0 own0 N w' Φ β (s.put id (.arr e (l.take (p.getD (0,l.length)).1 ++ xs ++ l.drop ((p.getD (0,l.length)).1 + xs.length)))) a ∧
   (match base with
     | some q => (storeCells q vs 0).run P w = .ok () w'
     | none => vs = [] ∧ w' = w):=by
 obtain ⟨loc,hloc,_,hs⟩:=hv
 have hrw:rowOf (look s.heap id) = some (e.size,l.length):=by rw [hl]; rfl
 have hsl:=hs _ _ hrw
 have hpl:partLen s id p = (p.getD (0,l.length)).2:=by
  unfold partLen
  cases p with
  | none => rw [hrw]; rfl
  | some q => rfl
 have hnil:xs = [] → vs = []:=fun e1 => by subst e1; exact List.eq_nil_of_length_eq_zero (by rw [hfl.1]; simp)
 have hsame:xs = [] → l.take (p.getD (0,l.length)).1 ++ xs ++ l.drop ((p.getD (0,l.length)).1 + xs.length) = l:=fun e1 => by subst e1; simp
 cases loc with
 | none =>
   obtain ⟨⟨z,e1⟩,e2,e3⟩:=hsl
   have hx0:xs = []:=List.eq_nil_of_length_eq_zero (by omega)
   refine ⟨z,0,w,by rw [e1,hpl,e3],by rw [hsame hx0]; exact hr.reput hl hh,?_⟩
   rw [hnil hx0]
   cases z with
   | none => exact ⟨rfl,rfl⟩
   | some q => simp [storeCells]
 | some bo =>
   obtain ⟨b,ob⟩:=bo
   obtain ⟨o',cap,e1,e2,e3,e4,_,_⟩:=hsl
   by_cases hx0:xs = []
   · refine ⟨some ⟨b,o',none⟩,cap,w,by rw [e1,hpl],by rw [hsame hx0]; exact hr.reput hl hh,?_⟩
     rw [hnil hx0]; simp [storeCells]
   · have hxp:=List.length_pos_iff.2 hx0
     have ho:o' = ob + (p.getD (0,l.length)).1 * e.size:=by
      rcases e3 with e3 | e3
      · exact e3
      · omega
     obtain ⟨w',g1,g2⟩:=splice_write (P:=P) hr hpos hl hloc hh hle hfl
     exact ⟨some ⟨b,o',none⟩,cap,w',by rw [e1,hpl],g2,by rw [ho]; exact g1⟩
theorem zero_flat {kd:IntKind} {z:Array Value} (hz:z.toList = [.int kd 0]) (n:Nat):Flat w Φ (.int kd) (List.replicate n (0:Int)) (Builtin.zeroCells z n).toList:=by
 have hsz:z.size = 1:=by have:=congrArg List.length hz; simpa using this
 have h0:z[0]! = .int kd 0:=by
  have:z[0]? = some (.int kd 0):=by rw [← Array.getElem?_toList,hz]; rfl
  simp [getElem!_def,this]
 have hrep:(Builtin.zeroCells z n).toList = List.replicate n (.int kd 0):=by
  refine List.ext_getElem? fun i => ?_
  rw [List.getElem?_replicate,Builtin.zeroCells,hsz,Nat.mul_one,Array.toList_map,List.getElem?_map,Array.toList_range]
  by_cases h:i < n
  · rw [if_pos h,List.getElem?_range h,Option.map_some,Nat.mod_one,h0]
  · rw [if_neg h,List.getElem?_eq_none (by simp; omega)]; rfl
 rw [hrep]
 refine ⟨by simp [CT.size],fun v hv => by rw [(List.mem_replicate.1 hv).2]; rfl,fun i x hx => ?_⟩
 have hi:i < n:=by
  rw [nth_getElem?,List.getElem?_replicate] at hx
  by_cases h:i < n
  · exact h
  · rw [if_neg h] at hx; cases hx
 rw [nth_getElem?,List.getElem?_replicate,if_pos hi] at hx
 cases hx
 have:((List.replicate n (Value.int kd 0)).drop (i * (CT.int kd).size)).take (CT.int kd).size = [.int kd 0]:=by
  simp only [CT.size,Nat.mul_one,List.drop_replicate,List.take_replicate]
  rw [Nat.min_eq_left (by omega)]; rfl
 rw [this]; exact rfl
theorem step_clear (hcx:CxOk P cx) (hr:Rel w0 Φ0 own0 N w Φ β s a) (hN:∀ d,o.dst = some d → N.ok d) (hk:∀ s' a' w' Φ' β',Rel w0 Φ0 own0 N w' Φ' β' s' a' → k s' = some r → next a' w')
  {c:Call} (ho:o.op = .call c) (hc:c.callee = .builtin .clear) (h:stepK cx o s k = some r):o.wp P a w next Q:=by
 simp only [stepK,ho,hc] at h
 split at h
 case h_2 => cases h
 rename_i x t hargs hty
 split at h
 case h_2 => cases h
 rename_i kd en id p htd hx
 have ha:c.args = #[x]:=by rw [← Array.toList_inj]; simpa using hargs
 have hat:c.argTypes = #[t]:=by rw [← Array.toList_inj]; simpa using hty
 obtain ⟨_,hu,i,z,hi,hz,hby,_,g2⟩:=hcx.tab t _ htd
 obtain ⟨hsz,hwf,_,hco,hzs⟩:=g2 (by simp)
 have hz1:z.cells.toList = [.int kd 0]:=by
  obtain ⟨v,vs,e1,e2,e3⟩:=hco
  cases e3
  rw [e1,show v = _ from e2]
 obtain ⟨l,hl,hh,hle,h⟩:=spliceK_some h
 obtain ⟨base,cap,w',ev,hr',hst⟩:=part_write (P:=P) hr (by simp [CT.size]) (hr.eval hx) hl hh hle (zero_flat hz1 _) (by simp)
 refine alloc_step (x:=.one .undef) (v:=.tuple #[]) hN hk h hr' ?_ trivial
 have hrun:(Builtin.clear_ #[t] o.type #[a.eval x]).run P w = .ok (.tuple #[]) w':=by
  rw [ev]
  cases base with
  | none =>
    obtain ⟨e1,rfl⟩:=hst
    cases hn:partLen s id p <;> simp [Builtin.clear_,run_underlying hu,hn]
  | some q =>
    cases hn:partLen s id p with
    | zero =>
      rw [hn] at hst
      have:(Builtin.zeroCells z.cells 0).toList = []:=List.eq_nil_of_length_eq_zero (by simp [Builtin.zeroCells])
      rw [this] at hst
      simp [storeCells] at hst
      subst hst
      simp [Builtin.clear_,run_underlying hu]
    | succ n =>
      rw [hn] at hst
      have hzv:(zeroValue en).run P w = .ok z w:=by simp [zeroValue,run_info hi,hz]
      simp [Builtin.clear_,run_underlying hu,hzv,hst]
 simp [execOp,ho,resolve,hc,invoke,builtin,ha,hat,hrun]
theorem Flat.take {e:CT} {l:List e.denote} {vs:List Value} (h:Flat w Φ e l vs) (n:Nat):Flat w Φ e (l.take n) (vs.take (min l.length n * e.size)):=by
 refine ⟨?_,fun v hv => h.2.1 v (List.mem_of_mem_take hv),fun i x hx => ?_⟩
 · have:min l.length n * e.size ≤ vs.length:=by rw [h.1]; exact Nat.mul_le_mul_right _ (Nat.min_le_left _ _)
   rw [List.length_take,Nat.min_eq_left this,List.length_take,Nat.min_comm n]
 · rw [nth_getElem?,List.getElem?_take] at hx
   split at hx
   case isFalse => cases hx
   rename_i hi
   have hil:i < l.length:=(List.getElem?_eq_some_iff.1 hx).1
   have h2:=h.2.2 i x (by rw [nth_getElem?]; exact hx)
   have h3:(i + 1) * e.size ≤ min l.length n * e.size:=Nat.mul_le_mul_right _ (by omega)
   rw [Nat.add_mul] at h3
   rw [List.drop_take,List.take_take,Nat.min_eq_left (by omega)]
   exact h2
theorem step_copy (hcx:CxOk P cx) (hr:Rel w0 Φ0 own0 N w Φ β s a) (hN:∀ d,o.dst = some d → N.ok d) (hk:∀ s' a' w' Φ' β',Rel w0 Φ0 own0 N w' Φ' β' s' a' → k s' = some r → next a' w')
  {c:Call} (ho:o.op = .call c) (hc:c.callee = .builtin .copy) (h:stepK cx o s k = some r):o.wp P a w next Q:=by
 simp only [stepK,ho,hc] at h
 split at h
 case h_2 => cases h
 rename_i x y t ts hargs hty
 split at h
 case h_2 => cases h
 rename_i e en id p u htd hx hy
 obtain ⟨hpos,h⟩:=cond_none h
 rw [Nat.blt_eq] at hpos
 split at h
 case h_2 => cases h
 rename_i b hsrc
 have ha:c.args = #[x,y]:=by rw [← Array.toList_inj]; simpa using hargs
 have hat:c.argTypes[0]? = some t:=by rw [← Array.getElem?_toList,hty]; rfl
 obtain ⟨_,hu,i,z,hi,hz,hby,_,g2⟩:=hcx.tab t _ htd
 obtain ⟨hsz,hwf,_,hco,hzs⟩:=g2 (fun e' => by subst e'; exact absurd hpos (by decide))
 obtain ⟨aa,cy,ev,hsrc'⟩:=src_sound hr (hr.eval hy) hsrc
 obtain ⟨l,hl,hh,hle,h⟩:=spliceK_some h
 have hfl:∃ vs,Flat w Φ e (b.take (partLen s id p)) vs ∧ (Builtin.firstCells e.size (min b.length (partLen s id p)) (a.eval y)).run P w = .ok vs.toArray w:=by
  rcases hsrc' with hb | ⟨blk,oo,news,f1,f2,f3⟩
  · subst hb
    refine ⟨[],⟨by simp,by simp,fun i x hx => by simp [nth_getElem?] at hx⟩,?_⟩
    rw [ev]
    cases aa <;> simp [Builtin.firstCells,loadCells,loadCellsFrom]
  · refine ⟨_,f3.take _,?_⟩
    rw [ev,f1]
    have hcut:cellsAt w blk oo (news.take (min b.length (partLen s id p) * e.size)):=cellsAt_of _ _ _ fun j v hv => by
     rw [List.getElem?_take] at hv
     split at hv
     · exact cellsAt_get _ _ _ f2 j v hv
     · cases hv
    have hln:(news.take (min b.length (partLen s id p) * e.size)).length = min b.length (partLen s id p) * e.size:=by
     rw [List.length_take,Nat.min_eq_left]
     rw [f3.1]; exact Nat.mul_le_mul_right _ (Nat.min_le_left _ _)
    have:=run_loadCells_at (P:=P) hcut
    rw [hln] at this
    simpa [Builtin.firstCells] using this
 obtain ⟨vs,hfl,hfc⟩:=hfl
 obtain ⟨base,cap,w',ev1,hr',hst⟩:=part_write (P:=P) hr hpos (hr.eval hx) hl hh hle hfl (by rw [List.length_take]; omega)
 refine alloc_step (x:=.one (.int .i64 (min b.length (partLen s id p):Nat))) (v:=.int .i64 (min b.length (partLen s id p):Nat)) hN hk h hr' ?_ rfl
 have hrun:(Builtin.copy_ c.argTypes o.type #[a.eval x,a.eval y]).run P w = .ok (.int .i64 (min b.length (partLen s id p):Nat)) w':=by
  have hlen:(Builtin.lenOf (a.eval y)).run P w = .ok b.length w:=by rw [ev]; simp [Builtin.lenOf]
  have hso:(sizeOf en).run P w = .ok e.size w:=by simp [sizeOf,run_info hi,hsz]
  rw [ev1]
  cases base with
  | none =>
    obtain ⟨e1,rfl⟩:=hst
    simp [Builtin.copy_,hat,run_underlying hu,hlen,hso,hfc,goInt]
  | some q =>
    simp [Builtin.copy_,hat,run_underlying hu,hlen,hso,hfc,hst,goInt]
 simp [execOp,ho,resolve,hc,invoke,builtin,ha,hrun]
end
theorem heap_freeze (w:World) (a:Addr) (b:Nat):(w.freeze a 1).heap[b]? = if a.block = b then (w.heap[b]?).map (fun
  | .cells c elem (lo,hi) => .cells c elem (if lo == hi then (a.off,a.off + 1) else (min lo a.off,max hi (a.off + 1)))
  | o => o) else w.heap[b]?:=by
 unfold World.freeze
 rw [if_neg (by decide)]
 simp only [Array.getElem?_modify]
 rfl
theorem Wrote.mark (w:World) (b n:Nat) (hs:∃ c t f,w.heap[b]? = some (.cells c t f) ∧ c.size = n) (o:Nat):Wrote w (w.freeze ⟨b,n,none⟩ 1) b o []:=by
 obtain ⟨c,t,⟨lo,hi⟩,hb,hn⟩:=hs
 have hb':(w.freeze ⟨b,n,none⟩ 1).heap[b]? = some (.cells c t (if lo == hi then (n,n + 1) else (min lo n,max hi (n + 1)))):=by
  rw [heap_freeze,if_pos rfl,hb]; rfl
 refine ⟨rfl,rfl,rfl,?_,fun k hk => ?_,fun hf => ?_,?_,fun j => ?_⟩
 · unfold World.freeze; rw [if_neg (by decide)]; simp
 · rw [heap_freeze,if_neg (fun e => hk e.symm)]
 · obtain ⟨c0,t0,⟨lo0,hi0⟩,h0,h1⟩:=hf
   rw [hb] at h0
   simp only [Option.some.injEq,Obj.cells.injEq,Prod.mk.injEq] at h0
   obtain ⟨rfl,rfl,rfl,rfl⟩:=h0
   refine ⟨_,_,_,hb',.inr ?_⟩
   by_cases e:lo = hi
   · rw [if_pos (by simpa using e)]; exact Nat.le_of_eq hn
   · rw [if_neg (by simpa using e)]
     show c.size ≤ min lo n
     simp only at h1
     omega
 · unfold blockSize; rw [hb',hb]
 · rw [if_neg (by simp)]
   unfold World.cell?
   rw [hb',hb]
section
variable {P:Program} {R:Type} {w0:World} {Φ0 own0:Nat → Prop} {N:Frm} {w:World} {Φ:Nat → Prop} {β:Loc} {s:St} {a:Act}
variable {cx:Cx} {o:Oper} {next:Act → World → Prop} {Q:Exit → Act → World → Prop} {k:St → Option R} {r:R}
theorem byteT_ok (hcx:CxOk P cx) {en:Nat} (h:byteT cx.tab en = true):P.underlying en = some (.int .u8):=by
 unfold byteT at h
 split at h
 · rename_i x htd
   obtain ⟨_,dd,hdd,_,hi,_⟩:=hcx.tab en _ htd
   rw [hdd,hi _ _ rfl]
 · cases h
theorem bytesWorld_eq (w:World) (e:TypeId) (s:ByteArray):Go.Lib.bytesWorld w e s = w.drew.alloc (.cells (Go.Lib.bytesCells w e s) e ((Go.Lib.bytesCells w e s).size,(Go.Lib.bytesCells w e s).size + 1)):=by
 unfold Go.Lib.bytesWorld World.freeze
 rw [if_neg (by decide)]
 show ({ (w.drew.alloc _) with heap:=_ }:World) = _
 have:(w.drew.alloc (.cells (Go.Lib.bytesCells w e s) e)).heap.modify w.heap.size (fun
   | .cells c elem (lo,hi) => .cells c elem (if lo == hi then ((Go.Lib.bytesCells w e s).size,(Go.Lib.bytesCells w e s).size + 1) else (min lo (Go.Lib.bytesCells w e s).size,max hi ((Go.Lib.bytesCells w e s).size + 1)))
   | o => o) = (w.drew.alloc (.cells (Go.Lib.bytesCells w e s) e ((Go.Lib.bytesCells w e s).size,(Go.Lib.bytesCells w e s).size + 1))).heap:=by
  refine Array.ext_getElem? fun i => ?_
  rw [Array.getElem?_modify]
  show (if w.heap.size = i then ((w.heap.push _)[i]?).map _ else (w.heap.push _)[i]?) = (w.heap.push _)[i]?
  rw [Array.getElem?_push,Array.getElem?_push]
  by_cases hi:i = w.heap.size
  · subst hi; rw [if_pos rfl,if_pos rfl,if_pos rfl]; rfl
  · rw [if_neg (fun e => hi e.symm),if_neg hi,if_neg hi]
 exact congrArg (fun hp => ({ (w.drew.alloc (.cells (Go.Lib.bytesCells w e s) e)) with heap:=hp }:World)) this
theorem Rel.newBytes (hr:Rel w0 Φ0 own0 N w Φ β s a) {l:List Int} {cs:Array Value} (t:TypeId) (f:Nat × Nat) (hf:cs.size ≤ f.1)
  (hrow:∀ (i:Nat) (x:Int),nth l i = some x → cs[i]? = some (.int .u8 x)) (hle:l.length ≤ cs.size) :
  Rel w0 Φ0 own0 N (w.alloc (.cells cs t f)) Φ (β.at s.next (some (w.heap.size,0))) (s.new (.arr (.int .u8) l)) a ∧
   LfR (w.alloc (.cells cs t f)) Φ (β.at s.next (some (w.heap.size,0))) (s.new (.arr (.int .u8) l)).heap (.sl s.next none) (.slice (some ⟨w.heap.size,0,none⟩) l.length cs.size):=by
 have hnew:=heap_alloc_new w (.cells cs t f)
 refine ⟨hr.new _ _ 0 (fun _ => RowB_none rfl) (.inr ⟨w.heap.size,0,by simp [Loc.at],fun h => absurd (hr.hp.flt _ h) (by omega),⟨_,_,_,hnew,.inr hf⟩,fun i x hx => ?_⟩),some (w.heap.size,0),by simp [Loc.at],⟨_,_,_,rfl⟩,?_⟩
 · refine ⟨[.int .u8 x],⟨?_,trivial⟩,rfl⟩
   have:=hrow i x hx
   unfold World.cell?
   rw [hnew]
   simpa [CT.size] using this
 · intro sz n hrw
   simp only [St.new,look_cons,if_true,rowOf] at hrw
   cases hrw
   have hbs:blockSize (w.alloc (.cells cs t f)) w.heap.size = cs.size:=by unfold blockSize; rw [hnew]
   exact ⟨0,cs.size,rfl,hle,.inl (by simp),by simp,by rw [hbs]; left; simp [CT.size],fun _ => ⟨rfl,by rw [hbs]; simp [CT.size],by decide⟩⟩
theorem step_convert (hcx:CxOk P cx) (hr:Rel w0 Φ0 own0 N w Φ β s a) (hN:∀ d,o.dst = some d → N.ok d) (hk:∀ s' a' w' Φ' β',Rel w0 Φ0 own0 N w' Φ' β' s' a' → k s' = some r → next a' w')
  {t d:TypeId} {x:Operand} (ho:o.op = .convert t d x) (h:stepK cx o s k = some r):o.wp P a w next Q:=by
 have h0:=h
 simp only [stepK,ho] at h
 split at h
 · rename_i td j z k' n htd hd hx
   exact (pstep_convert hcx hr ho (by simp only [stableOp,ho,hx]) h0).wp hr trivial hN hk
 · rename_i td z b htd hd hx
   obtain ⟨u,hu,_⟩:=(hcx.tab t _ htd).und
   obtain ⟨sx,ex,ex'⟩:=hr.eval hx
   obtain ⟨_,dd,hdd,_,_,hi,_⟩:=hcx.tab d _ hd
   have:=hi _ rfl; subst this
   refine alloc_step hN hk h hr (v:=.string sx) ?_ ⟨sx,rfl,ex'⟩
   simp only [execOp,ho,ex,Sem.run_bind,convert,run_underlying hu,run_underlying hdd,Result.andThen_ok]
   cases u <;> simp
 · rename_i td dd v hn1 hn2 htd hd hx
   clear hn1 hn2
   have hv:=hr.eval hx
   obtain ⟨u,hu,_⟩:=(hcx.tab t _ htd).und
   unfold convK at h
   split at h
   ·
    rename_i en str
    obtain ⟨hbt,h⟩:=cond_none h
    have he:=byteT_ok hcx hbt
    obtain ⟨_,hd2,_⟩:=hcx.tab d _ hd
    obtain ⟨sx,ex,ex'⟩:=hv
    have hrun:=Go.Lib.run_convert_string_bytes (P:=P) w t d en sx hu hd2 he
    rw [bytesWorld_eq] at hrun
    have hsz:(Go.Lib.bytesCells w en sx).size = grownCap w sx.size 0 en:=by
     have hg:=grownCap_ge w sx.size 0 en
     unfold Go.Lib.bytesCells
     have:sx.data.size = sx.size:=rfl
     simp only [Array.size_append,Array.size_map,Array.size_replicate]
     omega
    have hlen:(bytesOf str).length = sx.size:=by
     rw [bytesOf,List.length_map,← ex']; exact Array.length_toList
    obtain ⟨g1,g2⟩:=hr.drew.newBytes (l:=bytesOf str) (cs:=Go.Lib.bytesCells w en sx) en ((Go.Lib.bytesCells w en sx).size,(Go.Lib.bytesCells w en sx).size + 1) (Nat.le_refl _) (fun i y hy => by
     rw [nth_getElem?,bytesOf,List.getElem?_map,← ex',Array.getElem?_toList] at hy
     cases hq:sx.data[i]? with
     | none => rw [hq] at hy; cases hy
     | some b =>
       rw [hq] at hy
       cases hy
       have hi:i < sx.data.size:=(Array.getElem?_eq_some_iff.1 hq).1
       unfold Go.Lib.bytesCells
       rw [Array.getElem?_append,if_pos (by simpa using hi),Array.getElem?_map,hq]; rfl) (by rw [hlen,hsz]; exact grownCap_ge w sx.size 0 en)
    rw [hlen,hsz] at g2
    rw [hsz] at g1 hrun
    refine alloc_step hN hk h g1 ?_ g2
    simp only [execOp,ho,Sem.run_bind]
    rw [show a.eval x = .string sx from ex,hrun]
    simp
   ·
    rename_i en id
    split at h
    case h_2 => cases h
    rename_i l hl
    replace h:=cond_none h
    obtain ⟨hc,h⟩:=h
    simp only [and_eq_true,Bool.not_eq_true'] at hc
    obtain ⟨hbt,hsame,hpos,hh⟩:=hc
    have htd':=Nat.eq_of_beq_eq_true hsame
    subst htd'
    have he:=byteT_ok hcx hbt
    obtain ⟨_,hd2,_⟩:=hcx.tab t _ hd
    rw [Nat.blt_eq] at hpos
    obtain ⟨loc,hb,_,hs⟩:=hv
    have hsl:=hs _ _ (by rw [hl]; rfl)
    rcases hr.hp.ob id _ hl with ⟨q1,q2⟩ | ⟨b,ob,q1,hnΦ,hfz,hrow⟩
    · subst q2; exact absurd hpos (Nat.lt_irrefl _)
    rw [hb] at q1; cases q1
    obtain ⟨o',cap,e1,e2,e3,e4,e5,e6⟩:=hsl
    obtain ⟨c,tt,f,hblk⟩:∃ c tt f,w.heap[b]? = some (.cells c tt f):=by
     obtain ⟨us,hu1,hu2⟩:=hrow 0 (l[0]'hpos) (by rw [nth_getElem?]; simp [hpos])
     cases hu2
     have:=hu1.1
     unfold World.cell? at this
     cases hq:w.heap[b]? with
     | none => rw [hq] at this; cases this
     | some oo =>
       cases oo with
       | cells c tt f => exact ⟨c,tt,f,rfl⟩
       | _ => rw [hq] at this; cases this
    have hw:=Wrote.mark w b c.size ⟨c,tt,f,hblk,rfl⟩ 0
    have m:=hw.mono hr.hp hnΦ (id:=id) (ob':=.arr (.int .u8) l) hl rfl
    have hr':=hr.write (ob':=.arr (.int .u8) l) rfl rfl hl rfl rfl hb hh hw rfl hnΦ (.inr ⟨b,ob,hb,hnΦ,hw.fz hfz,fun j xx hj => by
     obtain ⟨us,hu1,hu2⟩:=hrow j xx hj
     refine ⟨us,cellsAt_of _ _ _ fun i v hv => ?_,VC_mono m.frz m.sub _ _ _ hu2⟩
     rw [hw.cell,if_neg (by simp)]
     exact cellsAt_get _ _ _ hu1 i v hv⟩)
    refine alloc_step hN hk h hr' (v:=a.eval x) ?_ ⟨some (b,ob),hb,⟨_,_,_,e1⟩,fun sz n hrw => ?_⟩
    · have hmark:(markStringish ⟨b,o',none⟩).run P w = .ok () (w.freeze ⟨b,c.size,none⟩ 1):=by
       simp [markStringish,World.shape?,hblk]
      have hue:=Option.some.inj (hu.symm.trans hd2)
      subst hue
      simp only [execOp,ho,Sem.run_bind]
      rw [e1]
      simp [convert,run_underlying hu,run_underlying he,hmark]
    · simp only [St.put,look_cons,if_true,rowOf] at hrw
      cases hrw
      exact ⟨o',cap,e1,e2,e3,e4,by rw [hw.bs]; exact e5,fun hh => by rw [hw.bs]; exact e6 hh⟩
   ·
    rename_i z v
    split at h
    case h_2 => cases h
    rename_i en e2
    obtain ⟨hbt,h⟩:=cond_none h
    split at h
    case h_2 => cases h
    rename_i l hsrc
    have he:=byteT_ok hcx hbt
    obtain ⟨_,hu2,_⟩:=hcx.tab t _ htd
    obtain ⟨_,dd,hdd,_,_,hi,_⟩:=hcx.tab d _ hd
    have:=hi _ rfl; subst this
    obtain ⟨aa,cap,ev,hsrc'⟩:=src_sound hr hv hsrc
    refine alloc_step hN hk h hr (v:=.string (strOfNums l)) ?_ ⟨strOfNums l,rfl,strOfNums_data l⟩
    have hrun:(convert t d (.slice aa l.length cap)).run P w = .ok (.string (strOfNums l)) w:=by
     rcases hsrc' with h0 | ⟨blk,oo,news,f1,f2,f3⟩
     · subst h0
       rw [run_convert_bytes_string w t d en aa _ cap hu2 he hdd]
       cases aa with
       | none => simp [Conv.bytesToString]; rfl
       | some q =>
         rw [show ([]:List Int).length = 0 from rfl,run_bytesToString w q 0 cap [] (by simp [loadCells,loadCellsFrom])]
         rfl
     · subst f1
       refine run_convert_bytes_arg w t en hu2 he blk oo l.length cap l rfl (fun i hi => ?_) d hdd
       have h3:=f3.2.2 i l[i] (by rw [nth_getElem?]; simp [hi])
       have h4:news[i]? = some (.int .u8 l[i]):=by
        have:=congrArg (fun q => q[0]?) (show (news.drop (i * 1)).take 1 = [.int .u8 l[i]] from h3)
        simpa using this
       rw [cellsAt_get _ _ _ f2 i _ h4]
       simp [List.getD_eq_getElem?_getD,List.getElem?_eq_getElem hi]
    simp only [execOp,ho,Sem.run_bind]
    rw [ev,hrun]
    simp
   · cases h
 · cases h
end
section
variable {P:Program} {R:Type} {w0:World} {Φ0 own0:Nat → Prop} {N:Frm} {w:World} {Φ:Nat → Prop} {β:Loc} {s:St} {a:Act} {hp:List (Nat × SObj)}
variable {cx:Cx} {o:Oper} {next:Act → World → Prop} {Q:Exit → Act → World → Prop} {k:St → Option R} {r:R}
theorem keyD_isKey {c:CT} {d:TypeDesc} {x:c.denote} {v:Value} (h:keyD c d) (hv:VC w Φ c x [v]):MapKept.IsKey d v:=by
 cases c <;> first | exact h.elim | (cases h; cases hv; rfl) | (cases h; cases hv; trivial) | (cases h; obtain ⟨s,e,_⟩:=hv; cases e; trivial)
theorem same_eqK {c:CT} {d:TypeDesc} {x y:c.denote} {u v:Value} (h:keyD c d) (hu:VC w Φ c x [u]) (hv:VC w Φ c y [v]):Instr.sameNow d u v = some (c.eqK x y):=by
 cases c with
 | int k => cases h; cases hu; cases hv; simp [Instr.sameNow,CT.eqK]
 | bool => cases h; cases hu; cases hv; simp [Instr.sameNow,CT.eqK]
 | str =>
   cases h
   obtain ⟨s1,e1,h1⟩:=hu
   obtain ⟨s2,e2,h2⟩:=hv
   cases e1; cases e2
   show some (s1 == s2) = some (@BEq.beq (List UInt8) _ x y)
   congr 1
   rw [Bool.eq_iff_iff,MapKept.bytes_beq,beq_iff_eq,← h1,← h2]
   constructor
   · rintro rfl; rfl
   · intro e
     obtain ⟨⟨l1⟩⟩:=s1
     obtain ⟨⟨l2⟩⟩:=s2
     simp only at e
     rw [e]
 | _ => exact h.elim
theorem eqK_same {c:CT} {d:TypeDesc} {x y:c.denote} {u v:Value} (h:keyD c d) (hu:VC w Φ c x [u]) (hv:VC w Φ c y [v]) (e:c.eqK x y = true):u = v:=by
 obtain ⟨r,h1,h2⟩:=MapKept.sameNow_of_keys (keyD_isKey h hu) (keyD_isKey h hv)
 rw [same_eqK h hu hv] at h1
 cases h1
 exact h2.1 e
theorem sameBits_key {d:TypeDesc} {v:Value} (h:MapKept.IsKey d v):Instr.sameBits 10000 v v = true:=by
 cases d <;> cases v <;> simp_all [MapKept.IsKey,Instr.sameBits,MapKept.bytes_beq]
theorem find_spec {c v:CT} {agg:Bool} {d:TypeDesc} (hd:keyD c d) {x:c.denote} {kv:Value} (hx:VC w Φ c x [kv]):∀ (l:List (c.denote × v.denote)) (es:List MapEntry) (i:Nat),EntR w Φ c v agg l es →
  (assoc c.eqK l x = none ∧ Instr.findNow d kv es i = some none ∧ ∀ (z:v.denote) (us:List Value) (e:MapEntry),VC w Φ v z us → e.key = kv → e.val = valOf agg us → EntR w Φ c v agg (assocSet c.eqK l x z) (es ++ [e])) ∨
  ∃ y j e,assoc c.eqK l x = some y ∧ Instr.findNow d kv es i = some (some (i + j,e.val)) ∧ es[j]? = some e ∧ e.key = kv ∧ (∃ us,VC w Φ v y us ∧ e.val = valOf agg us) ∧
   ∀ (z:v.denote) (us:List Value) (f:MapEntry → MapEntry),VC w Φ v z us → (f e).key = kv → (f e).val = valOf agg us → EntR w Φ c v agg (assocSet c.eqK l x z) (es.modify j f)
 | [],es,i,h => by
   cases h
   exact .inl ⟨rfl,rfl,fun z us e h1 h2 h3 => ⟨e,[],rfl,by rw [h2]; exact hx,⟨us,h1,h3⟩,rfl⟩⟩
 | p :: l,es,i,⟨e,es',e1,e2,⟨us,e3,e4⟩,e5⟩ => by
   subst e1
   have hs:=same_eqK hd hx e2
   cases hb:c.eqK x p.1 with
   | true =>
     rw [hb] at hs
     have hk:kv = e.key:=eqK_same hd hx e2 hb
     refine .inr ⟨p.2,0,e,by simp [assoc,hb],by simp [Instr.findNow,hs],rfl,hk.symm,⟨us,e3,e4⟩,fun z us' f h1 h2 h3 => ?_⟩
     simp only [assocSet,hb,cond_true,List.modify_zero_cons]
     exact ⟨_,_,rfl,by rw [h2]; exact hx,⟨us',h1,h3⟩,e5⟩
   | false =>
     rw [hb] at hs
     rcases find_spec hd hx l es' (i + 1) e5 with ⟨g1,g2,g3⟩ | ⟨y,j,e',g1,g2,g3,g4,g5,g6⟩
     · refine .inl ⟨by simp [assoc,hb,g1],by simp [Instr.findNow,hs,g2],fun z us' e' h1 h2 h3 => ?_⟩
       simp only [assocSet,hb,cond_false,List.cons_append]
       exact ⟨_,_,rfl,e2,⟨us,e3,e4⟩,g3 z us' e' h1 h2 h3⟩
     · refine .inr ⟨y,j + 1,e',by simp [assoc,hb,g1],by simp [Instr.findNow,hs,g2]; omega,by simpa using g3,g4,g5,fun z us' f h1 h2 h3 => ?_⟩
       simp only [assocSet,hb,cond_false,List.modify_succ_cons]
       exact ⟨_,_,rfl,e2,⟨us,e3,e4⟩,g6 z us' f h1 h2 h3⟩
theorem keyOf_VC {c:CT} {l:Leaf} {v:Value} {x:c.denote} (h:keyOf c l = some x) (hv:LfR w Φ β hp l v):VC w Φ c x [v]:=by
 unfold keyOf at h
 split at h
 · split at h
   · rename_i e; cases h; subst e; cases hv; rfl
   · cases h
 · cases h; cases hv; rfl
 · cases h; obtain ⟨s,e,h⟩:=hv; subst e; exact ⟨s,rfl,h⟩
 · cases h
theorem step_makeMap (hcx:CxOk P cx) (hr:Rel w0 Φ0 own0 N w Φ β s a) (hN:∀ d,o.dst = some d → N.ok d) (hk:∀ s' a' w' Φ' β',Rel w0 Φ0 own0 N w' Φ' β' s' a' → k s' = some r → next a' w')
  {t:TypeId} (ho:o.op = .makeMap t none) (h:stepK cx o s k = some r):o.wp P a w next Q:=by
 simp only [stepK,ho] at h
 split at h
 case h_2 => cases h
 rename_i kt vt agg htd
 by_cases hmk:∃ e,cx.mkr t = true ∧ vt = .list e ∧ agg = false
 · obtain ⟨e,hm1,rfl,rfl⟩:=hmk
   rw [hm1] at h
   refine alloc_step (v:=.map (some w.heap.size)) hN hk h (hr.new (.map #[] 0) (.mrows kt e [] none) 0 ?_ ?_) (by simp [execOp,ho,Instr.makeMap]) ?_
   · rintro c ⟨hs,g,⟨_,b,es,cl,hb,hc,e1⟩,i,v,hv,_⟩
     simp only [Loc.at,if_true,Option.some.injEq,Prod.mk.injEq] at hb
     obtain ⟨rfl,_⟩:=hb
     rw [(MapKept.heap_alloc w _).1] at hc
     cases hc
     subst e1
     simp at hv
   · exact ⟨w.heap.size,#[],0,by simp [Loc.at],fun h => absurd (hr.hp.flt _ h) (by omega),(MapKept.heap_alloc w _).1,rfl,⟨fun e he => by simp at he,by simp⟩,rfl,fun i v r h1 => by simp at h1,fun i j v v' c h1 => by simp at h1⟩
   · exact ⟨w.heap.size,by simp [Loc.at],rfl⟩
 have hmade:madeM (cx.mkr t) kt vt agg = .map kt vt agg []:=by
  cases hmr:cx.mkr t with
  | false => unfold madeM; rfl
  | true => cases vt <;> first | rfl | (cases agg <;> first | rfl | exact absurd ⟨_,hmr,rfl,rfl⟩ hmk)
 rw [hmade] at h
 refine alloc_step (v:=.map (some w.heap.size)) hN hk h (hr.new (.map #[] 0) (.map kt vt agg []) 0 (fun _ => RowB_none rfl) ?_) (by simp [execOp,ho,Instr.makeMap]) ?_
 · exact ⟨w.heap.size,#[],0,by simp [Loc.at],fun h => absurd (hr.hp.flt _ h) (by omega),(MapKept.heap_alloc w _).1,rfl,⟨fun e he => by simp at he,by simp⟩⟩
 · exact ⟨w.heap.size,by simp [Loc.at],rfl⟩
theorem lookupS_cases {td:TD} {x i:SVal} {ok:Bool} {k:SVal → St → Option R} (h:lookupS td s x i ok k = some r):lookupK td s x i ok (fun y => k y s) = some r ∨
  ∃ id kt e l lf y,x = .one (.mp id) ∧ look s.heap id = some (.mrows kt e l none) ∧ td = .map kt (.list e) false ∧ ok = false ∧ i = .one lf ∧ keyOf kt lf = some y ∧ takeK s id (.mrows kt e l (assocIx kt.eqK l y 0)) e (assocGet kt.eqK [] l y) k = some r:=by
 unfold lookupS at h
 split at h
 · rename_i id
   split at h
   · rename_i kt e l hl
     split at h
     · rename_i kt' vt agg lf
       split at h
       case isFalse => cases h
       rename_i hc
       obtain ⟨rfl,rfl,rfl⟩:=hc
       split at h
       · rename_i y hy; exact .inr ⟨id,_,e,l,lf,y,rfl,hl,rfl,rfl,rfl,hy,h⟩
       · cases h
     · cases h
   · exact .inl h
 · exact .inl h
theorem pstep_lookupK (hcx:CxOk P cx) (hr:Rel w0 Φ0 own0 N w Φ β s a) {S:World → Prop} {K:Nat → Prop} (hS:∀ w',S w' → ∀ b,K b → w'.heap[b]? = w.heap[b]?)
  {t:TypeId} {x i:Operand} {ok:Bool} (ho:o.op = .lookup t x i ok) (hK:∀ id,evalO s.env x = some (.one (.mp id)) → ∀ b p,β id = some (some (b,p)) → (∃ c v g l,look s.heap id = some (.map c v g l)) → K b)
  {td:TD} {v j:SVal} (htd:cx.tab t = some td) (hx:evalO s.env x = some v) (hi:evalO s.env i = some j) (h:lookupK td s v j ok (fun r => k (s.set o.dst r)) = some r):PStep P R S w Φ β s a o k r:=by
 have h1:=hr.eval hx
 have h2:=hr.eval hi
 unfold lookupK at h
 split at h
 case h_2 => cases h
 rename_i kt vt agg id l
 split at h
 case h_2 => cases h
 rename_i k' v' agg' es hl
 split at h
 case isFalse => cases h
 rename_i hc
 obtain ⟨rfl,rfl,rfl⟩:=hc
 split at h
 case h_2 => cases h
 rename_i y hy
 obtain ⟨_,kt,et,hu,⟨d,hkd,hkk⟩,inf,z,hinf,hz,hwf,hco,hzz,hone⟩:=hcx.tab t _ htd
 obtain ⟨b,es',clock,hb,hnΦ,hblk,hent,hborn⟩:=hr.hp.ob id _ hl
 obtain ⟨b',hb',hxv⟩:=h1
 rw [hb] at hb'; cases hb'
 have hyv:VC w Φ k' y [a.eval i]:=keyOf_VC hy h2
 have hKb:=hK id hx b 0 hb ⟨_,_,_,_,hl⟩
 have hfk:=find_spec (w:=w) (Φ:=Φ) hkk hyv es es'.toList 0 hent
 obtain ⟨u,us,g1,g2,g3⟩:∃ u us,VC w Φ v' (assocGet k'.eqK v'.zero es y) us ∧ u = valOf agg' us ∧ ∀ w',w'.heap[b]? = w.heap[b]? → (Instr.lookup t (a.eval x) (a.eval i) ok).run P w' = .ok (if ok then .tuple #[u,.bool (assocHas k'.eqK es y)] else u) w':=by
  have hrun:∀ (w':World) (q:Option (Nat × Value)),w'.heap[b]? = w.heap[b]? → Instr.findNow d (a.eval i) es'.toList 0 = some q → (Instr.lookup t (a.eval x) (a.eval i) ok).run P w' = (match q with
    | some (_,v) => .ok (if ok then .tuple #[v,.bool true] else v) w'
    | none => .ok (if ok then .tuple #[z,.bool false] else z) w'):=by
   intro w' q he hq
   have hb':w'.heap[b]? = some (.map es' clock):=by rw [he]; exact hblk
   rw [hxv]
   unfold Instr.lookup
   simp only [Sem.run_bind,run_underlying hu,Result.andThen_ok,MapKept.run_getObj_map hb',Sem.run_pure,MapKept.run_checkKey hkd (keyD_isKey hkk hyv),MapKept.run_findKey hkd hq]
   cases q with
   | none => simp [zeroValue,run_info hinf,hz]
   | some p => obtain ⟨p1,p2⟩:=p; simp
  rcases hfk with ⟨f1,f2,_⟩ | ⟨yy,jj,e,f1,f2,f3,f4,⟨us,f5,f6⟩,_⟩
  · refine ⟨z,z.cells.toList,?_,hzz,fun w' he => ?_⟩
    · simp only [assocGet,f1]; exact zero_VC v' _ hwf hco
    · rw [hrun w' none he f2]; simp [assocHas,f1]
  · refine ⟨e.val,us,?_,f6,fun w' he => ?_⟩
    · simp only [assocGet,f1]; exact f5
    · rw [hrun w' _ he f2]; simp [assocHas,f1]
 have hun:=unpackL_LfRs (β:=β) (hp:=s.heap) v' _ us g1
 split at h
 · refine pstep h (v:=.tuple #[u,.bool (assocHas k'.eqK es y)]) (fun w' hw' => ?_) ?_
   · have:=g3 w' (hS w' hw' b hKb)
     simp [execOp,ho,this]
   · refine ⟨_,rfl,u,[.bool _],rfl,?_,.bool _,[],rfl,?_,rfl⟩
     · unfold PartR
       cases agg' with
       | true => rw [if_pos rfl]; exact ⟨us.toArray,by rw [g2]; rfl,by simpa using hun⟩
       | false =>
         simp only [Bool.false_eq_true,if_false]
         have hl1:=VC_len _ _ _ g1
         have hz1:v'.size = 1:=hone rfl
         match us,hl1 with
         | [u0],_ => rw [g2]; exact hun
         | [],hl1 => simp [hz1] at hl1
         | _ :: _ :: _,hl1 => simp [hz1] at hl1
     · show LfRs w Φ β s.heap [.bool _] [.bool _]
       exact ⟨_,_,rfl,rfl,rfl⟩
 · split at h
   case h_2 => cases h
   rename_i rr hrr
   refine pstep h (v:=u) (fun w' hw' => ?_) (by rw [g2]; exact asVal_SVR hrr hun)
   have:=g3 w' (hS w' hw' b hKb)
   simp [execOp,ho,this]
theorem pstep_lookup (hcx:CxOk P cx) (hr:Rel w0 Φ0 own0 N w Φ β s a) {S:World → Prop} {K:Nat → Prop} (hS:∀ w',S w' → ∀ b,K b → w'.heap[b]? = w.heap[b]?)
  {t:TypeId} {x i:Operand} {ok:Bool} (ho:o.op = .lookup t x i ok) (hK:∀ id,evalO s.env x = some (.one (.mp id)) → ∀ b p,β id = some (some (b,p)) → (∃ c v g l,look s.heap id = some (.map c v g l)) → K b)
  (hnt:∀ id kt e l,evalO s.env x = some (.one (.mp id)) → look s.heap id = some (.mrows kt e l none) → s.held id = true) (h:stepK cx o s k = some r):PStep P R S w Φ β s a o k r:=by
 simp only [stepK,ho] at h
 split at h
 case h_2 => cases h
 rename_i td v j htd hx hi
 rcases lookupS_cases h with h | ⟨id,kt,e,l,lf,y,e1,e2,e3,e4,e5,e6,e7⟩
 · exact pstep_lookupK hcx hr hS ho hK htd hx hi h
 · subst e1
   have:=hnt id kt e l hx e2
   unfold takeK at e7
   rw [this] at e7
   cases e7
theorem step_lookupK (hcx:CxOk P cx) (hr:Rel w0 Φ0 own0 N w Φ β s a) (hN:∀ d,o.dst = some d → N.ok d) (hk:∀ s' a' w' Φ' β',Rel w0 Φ0 own0 N w' Φ' β' s' a' → k s' = some r → next a' w')
  {t:TypeId} {x i:Operand} {ok:Bool} (ho:o.op = .lookup t x i ok) {td:TD} {v j:SVal} (htd:cx.tab t = some td) (hx:evalO s.env x = some v) (hi:evalO s.env i = some j) (h:lookupK td s v j ok (fun r => k (s.set o.dst r)) = some r):o.wp P a w next Q :=
 (pstep_lookupK (S:=fun w' => w' = w) (K:=fun _ => True) hcx hr (fun w' e b _ => by rw [e]) ho (fun _ _ _ _ _ _ => trivial) htd hx hi h).wp hr rfl hN hk
theorem step_mapUpdateK (hcx:CxOk P cx) (hr:Rel w0 Φ0 own0 N w Φ β s a) (hN:∀ d,o.dst = some d → N.ok d) (hk:∀ s' a' w' Φ' β',Rel w0 Φ0 own0 N w' Φ' β' s' a' → k s' = some r → next a' w')
  {t:TypeId} {x i y:Operand} (ho:o.op = .mapUpdate t x i y ∨ o.op = .insert t x i y) {td:TD} {v j u:SVal} (htd:cx.tab t = some td) (hx:evalO s.env x = some v) (hi:evalO s.env i = some j) (hy:evalO s.env y = some u)
  (h':updateK td s v j u (fun s' => k (s'.set o.dst (.one .undef))) = some r):o.wp P a w next Q:=by
 have hex:∀ w',(Instr.mapUpdate t (a.eval x) (a.eval i) (a.eval y)).run P w = .ok () w' → (execOp a.eval o).run P w = .ok .skip w':=by
  intro w' hh
  rcases ho with ho | ho <;> simp [execOp,ho,hh]
 have h1:=hr.eval hx
 have h2:=hr.eval hi
 have h3:=hr.eval hy
 unfold updateK at h'
 split at h'
 case h_2 => cases h'
 rename_i kt vt agg id l vs hvs
 obtain ⟨hc,h⟩:=cond_none h'
 clear h'
 simp only [and_eq_true] at hc
 split at h
 case h_2 => cases h
 rename_i q z s' hq hz
 split at h
 case h_2 => cases h
 rename_i k' v' agg' es hl
 split at h
 case isFalse => cases h
 rename_i e1
 subst e1
 split at h
 case isFalse => cases h
 rename_i e2
 subst e2
 have h4:=cond_none h
 clear h
 obtain ⟨hg,h⟩:=h4
 simp only [and_eq_true,Bool.not_eq_true'] at hg
 have hagg:=eq_of_beq hg.1
 subst hagg
 have hh:=hg.2
 have hisagg:=eq_of_beq hc.2
 have hdf:vs.all Leaf.def = true ∨ ∃ cs,u = .agg cs:=by
  have:=hc.1
  simp only [Bool.or_eq_true] at this
  rcases this with g | g
  · exact .inl g
  · cases u <;> first | exact .inr ⟨_,rfl⟩ | cases g
 have hls:=leaves_SVR hvs h3 hdf
 obtain ⟨Φ',p1,p2,p3⟩:=packL_sound hr hls hz
 obtain ⟨_,ktt,et,hu,⟨d,hkd,hkk⟩,inf,zz,hinf,hzz,hwf,hco,_,_⟩:=hcx.tab t _ htd
 obtain ⟨b,es',clock,hb,hnΦ,hblk,hent,hborn⟩:=p1.hp.ob id _ hl
 obtain ⟨b',hb',hxv⟩:=h1
 rw [hb] at hb'; cases hb'
 have hqv:VC w Φ' k' q [a.eval i]:=VC_mono p2.mono.frz p2.mono.sub _ _ _ (keyOf_VC hq h2)
 have hval:a.eval y = valOf agg' (a.eval y).cells.toList:=by
  cases u with
  | one lf =>
    have ha:agg' = false:=by rw [← hisagg]; rfl
    subst ha
    cases hvs
    have:=LfR_oneCell h3 (by rcases hdf with g | ⟨_,g⟩; · simpa using g
                             · cases g)
    have hc:(a.eval y).cells = #[a.eval y]:=by cases hv:a.eval y <;> first | rfl | (rw [hv] at this; cases this)
    rw [hc]; rfl
  | agg cs =>
    have ha:agg' = true:=by rw [← hisagg]; rfl
    subst ha
    obtain ⟨us,e,_⟩:=h3
    rw [e]; simp [valOf,Value.cells]
  | tup _ => cases hvs
  | skip => cases hvs
 have hcast:castE rfl rfl es = es:=rfl
 rw [hcast] at h
 have hfk:=find_spec (w:=w) (Φ:=Φ') hkk hqv es es'.toList 0 hent
 have fin:∀ (es2:Array MapEntry) (clock2:Nat),EntR w Φ' k' v' agg' (assocSet k'.eqK es q z) es2.toList → BornOk es2.toList clock2 →
   (Instr.mapUpdate t (a.eval x) (a.eval i) (a.eval y)).run P w = .ok () { w with heap:=w.heap.setIfInBounds b (.map es2 clock2) } → o.wp P a w next Q:=by
  intro es2 clock2 f1 f2 f3
  obtain ⟨q1,q2⟩:=MapKept.heap_set (o':=Obj.map es2 clock2) hblk
  have hmine:=p1.mine hh hl rfl hb
  have m:Mono w Φ' β s'.heap { w with heap:=w.heap.setIfInBounds b (.map es2 clock2) } Φ' β (s'.put id (.map k' v' agg' (assocSet k'.eqK es q z))).heap:=by
   refine ⟨fun b' hb' => q2 b' (fun e => hnΦ (e ▸ hb')),fun _ h => h,fun _ _ h => h,?_,?_⟩
   · intro j x hx r hr
     simp only [St.put,look_cons] at hr
     split at hr
     · cases hr
     · exact hr
   · intro j b' o' r hj hr
     unfold blockSize
     by_cases e:b' = b
     · subst e; rw [hblk,q1]
     · rw [q2 b' e]
  refine upon_skip (hex _ f3) (hk _ _ _ Φ' β ((p1.turn (o':=.map k' v' agg' (assocSet k'.eqK es q z)) rfl rfl hl (.inl rfl) hh _ Φ' ?_ (by simp) (fun _ h => h) (fun _ h => .inl h) ?_ (fun b' hb' => q2 b' (fun e => hnΦ (e ▸ hb'))) ?_ (.inr rfl) ?_).set (sv:=.one .undef) (v:=undef) trivial hN) h)
  · refine ⟨p1.same.os,p1.same.tape,p1.same.output,by simpa using p1.same.size,fun b' hb' hn => ?_⟩
    rw [q2 b' (fun e => ?_)]
    · exact p1.same.block b' hb' hn
    · subst e
      rcases hmine with g | g
      · exact hn g
      · omega
  · intro b' hb' hne
    exact q2 b' (fun e => by subst e; exact hne rfl 0 hb)
  · intro b' hb'
    unfold blockSize
    by_cases e:b' = b
    · subst e; rw [hblk]; simp only [q1]
    · rw [q2 b' e]
  · exact ⟨b,es2,clock2,hb,hnΦ,q1,EntR_mono m.frz m.sub _ _ f1,f2⟩
 have hck:∀ n,(Instr.checkKey false (n + 1) ktt (a.eval i)).run P w = .ok () w:=fun n => MapKept.run_checkKey hkd (keyD_isKey hkk hqv) false n
 rcases hfk with ⟨f1,f2,f3⟩ | ⟨yy,jj,e,f1,f2,f3,f4,_,f6⟩
 · refine fin (es'.push { key:=a.eval i,val:=a.eval y,born:=clock }) (clock + 1) (by rw [Array.toList_push]; exact f3 z _ _ p3 rfl hval) ?_ ?_
   · rw [Array.toList_push]
     refine ⟨fun e he => ?_,List.pairwise_append.2 ⟨hborn.2,by simp,fun x hx y hy => ?_⟩⟩
     · rcases List.mem_append.1 he with g | g
       · have:=hborn.1 e g; omega
       · simp at g; subst g; exact Nat.lt_succ_self _
     · simp at hy; subst hy; have:=hborn.1 x hx; simp only; omega
   · rw [hxv]
     unfold Instr.mapUpdate
     simp only [Sem.run_bind,run_underlying hu,Result.andThen_ok,MapKept.run_getObj_map hblk,hck,MapKept.run_findKey hkd f2,MapKept.run_setObj_map _ hblk]
 · rw [Nat.zero_add] at f2
   have hsb:Instr.sameBits 10000 (a.eval i) (a.eval i) = true:=sameBits_key (keyD_isKey hkk hqv)
   have hje:es'[jj]? = some e:=by simpa using f3
   refine fin (es'.modify jj fun e => { e with key:=a.eval i,val:=a.eval y }) clock ?_ ?_ ?_
   · rw [Array.toList_modify]
     exact f6 z _ _ p3 rfl hval
   · have hbm:(es'.modify jj fun e => { e with key:=a.eval i,val:=a.eval y }).toList.map (·.born) = es'.toList.map (·.born):=by
      apply List.ext_getElem?
      intro j
      simp only [List.getElem?_map,Array.getElem?_toList,Array.getElem?_modify]
      by_cases hij:jj = j
      · subst hij
        cases es'[jj]? <;> simp
      · simp [hij]
     have hp2:(es'.toList.map (·.born)).Pairwise (· ≠ ·):=List.pairwise_map.2 hborn.2
     refine ⟨fun x hx => ?_,?_⟩
     · have:x.born ∈ (es'.modify jj fun e => { e with key:=a.eval i,val:=a.eval y }).toList.map (·.born):=List.mem_map.2 ⟨x,hx,rfl⟩
       rw [hbm] at this
       obtain ⟨x',hx',e'⟩:=List.mem_map.1 this
       rw [← e']; exact hborn.1 x' hx'
     · rw [← hbm] at hp2
       exact List.pairwise_map.1 hp2
   · rw [hxv]
     unfold Instr.mapUpdate
     have hkts:(Instr.keyThatStays (((es'[jj]?).map (·.key)).getD (a.eval i)) (a.eval i)).run P w = .ok (a.eval i) w:=by
      rw [hje]
      simp only [Option.map_some,Option.getD_some,f4]
      unfold Instr.keyThatStays
      rw [if_pos hsb]; simp
     simp only [Sem.run_bind,run_underlying hu,Result.andThen_ok,MapKept.run_getObj_map hblk,hck,MapKept.run_findKey hkd f2,hkts,MapKept.run_setObj_map _ hblk]
end
section
variable {P:Program} {R:Type} {w0:World} {Φ0 own0:Nat → Prop} {N:Frm} {w:World} {Φ:Nat → Prop} {β:Loc} {s:St} {a:Act} {hp:List (Nat × SObj)}
variable {cx:Cx} {o:Oper} {next:Act → World → Prop} {Q:Exit → Act → World → Prop} {k:St → Option R} {r:R}
theorem EntR_len {c v:CT} {agg:Bool}:∀ {l:List (c.denote × v.denote)} {es:List MapEntry},EntR w Φ c v agg l es → es.length = l.length
 | [],es,h => by rw [show es = [] from h]; rfl
 | p :: l,es,⟨e,es',e1,_,_,e5⟩ => by rw [e1,List.length_cons,List.length_cons,EntR_len e5]
theorem step_len (hcx:CxOk P cx) (hr:Rel w0 Φ0 own0 N w Φ β s a) (hN:∀ d,o.dst = some d → N.ok d) (hk:∀ s' a' w' Φ' β',Rel w0 Φ0 own0 N w' Φ' β' s' a' → k s' = some r → next a' w')
  {c:Call} (ho:o.op = .call c) (hc:c.callee = .builtin .len) (h:stepK cx o s k = some r):o.wp P a w next Q:=by
 by_cases hnm:∀ x id,c.args.toList = [x] → evalO s.env x ≠ some (.one (.mp id))
 · exact (pstep_len hcx hr ho hc hnm h).wp hr trivial hN hk
 · have hnm2:∃ x id,c.args.toList = [x] ∧ evalO s.env x = some (.one (.mp id)):=by
    refine Classical.byContradiction fun hx => hnm fun x id h1 h2 => hx ⟨x,id,h1,h2⟩
   obtain ⟨x0,id,hx0,he⟩:=hnm2
   simp only [stepK,ho,hc] at h
   split at h
   case h_2 => cases h
   rename_i x t ts hargs hty
   rw [hx0] at hargs
   cases hargs
   rw [he] at h
   split at h
   case h_2 => cases h
   rename_i td v htd hv
   cases hv
   have hargs':c.args = #[x0]:=by rw [← Array.toList_inj]; simpa using hx0
   have ht:c.argTypes[0]? = some t:=by rw [← Array.getElem?_toList,hty]; rfl
   have h1:=hr.eval he
   obtain ⟨b',hb',hxv⟩:=h1
   cases hmp:lenMpK td s (.mp id) with
   | none =>
     rw [hmp] at h
     simp only at h
     have:lenOf td s (.mp id) = none:=by
      cases td with
      | leaf z => cases z <;> rfl
      | _ => rfl
     rw [this] at h
     cases h
   | some m =>
     rw [hmp] at h
     unfold lenMpK at hmp
     split at hmp
     case h_2 => cases hmp
     rename_i kt vt agg id2 hid
     cases hid
     split at hmp
     case h_2 => cases hmp
     rename_i k' v' agg' l hl
     cases hmp
     obtain ⟨b,es',clock,hb,hnΦ,hblk,hent,hborn⟩:=hr.hp.ob id _ hl
     rw [hb] at hb'; cases hb'
     obtain ⟨_,ktt,et,hu,_⟩:=hcx.tab t _ htd
     have hlen:es'.size = l.length:=by rw [← Array.length_toList]; exact EntR_len hent
     have hrun:(Builtin.len_ c.argTypes o.type #[a.eval x0]).run P w = .ok (.int .i64 l.length) w:=by
      simp [Builtin.len_,ht,hxv,run_underlying hu,MapKept.run_getObj_map hblk,goInt,hlen]
     refine alloc_step (x:=.one (.int .i64 l.length)) (v:=.int .i64 l.length) hN hk h hr ?_ rfl
     simp [execOp,ho,resolve,hc,invoke,builtin,hargs',hrun]
theorem del_spec {c v:CT} {agg:Bool} {d:TypeDesc} (hd:keyD c d) {x:c.denote} {kv:Value} (hx:VC w Φ c x [kv]):∀ (l:List (c.denote × v.denote)) (es:List MapEntry) (i:Nat),EntR w Φ c v agg l es →
  (Instr.findNow d kv es i = some none ∧ assocDel c.eqK l x = l) ∨
  ∃ j e,Instr.findNow d kv es i = some (some (i + j,e)) ∧ EntR w Φ c v agg (assocDel c.eqK l x) (es.eraseIdx j)
 | [],es,i,h => by
   cases h
   exact .inl ⟨rfl,rfl⟩
 | p :: l,es,i,⟨e,es',e1,e2,⟨us,e3,e4⟩,e5⟩ => by
   subst e1
   have hs:=same_eqK hd hx e2
   cases hb:c.eqK x p.1 with
   | true =>
     rw [hb] at hs
     exact .inr ⟨0,e.val,by simp [Instr.findNow,hs],by simp only [assocDel,hb,cond_true,List.eraseIdx_cons_zero]; exact e5⟩
   | false =>
     rw [hb] at hs
     rcases del_spec hd hx l es' (i + 1) e5 with ⟨g1,g2⟩ | ⟨j,e',g1,g2⟩
     · exact .inl ⟨by simp [Instr.findNow,hs,g1],by simp only [assocDel,hb,cond_false,g2]⟩
     · refine .inr ⟨j + 1,e',by simp [Instr.findNow,hs,g1]; omega,?_⟩
       simp only [assocDel,hb,cond_false,List.eraseIdx_cons_succ]
       exact ⟨_,_,rfl,e2,⟨us,e3,e4⟩,g2⟩
theorem step_delete (hcx:CxOk P cx) (hr:Rel w0 Φ0 own0 N w Φ β s a) (hN:∀ d,o.dst = some d → N.ok d) (hk:∀ s' a' w' Φ' β',Rel w0 Φ0 own0 N w' Φ' β' s' a' → k s' = some r → next a' w')
  {c:Call} (ho:o.op = .call c) (hc:c.callee = .builtin .delete) (h:stepK cx o s k = some r):o.wp P a w next Q:=by
 simp only [stepK,ho,hc] at h
 split at h
 case h_2 => cases h
 rename_i x y t ts hargs hty
 split at h
 case h_2 => cases h
 rename_i td v u htd hx hy
 have ha:c.args = #[x,y]:=by rw [← Array.toList_inj]; simpa using hargs
 have hat:c.argTypes[0]? = some t:=by rw [← Array.getElem?_toList,hty]; rfl
 have h1:=hr.eval hx
 have h2:=hr.eval hy
 unfold deleteK at h
 split at h
 case h_2 => cases h
 rename_i kt vt ag id lf
 split at h
 case h_2 => cases h
 rename_i k' v' agg' es hl
 split at h
 case isFalse => cases h
 rename_i hkt
 subst hkt
 split at h
 case h_2 => cases h
 rename_i q hq
 obtain ⟨hh0,h⟩:=cond_none h
 have hh:s.held id = false:=by simpa using hh0
 obtain ⟨_,ktt,et,hu,⟨d,hkd,hkk⟩,inf,zz,hinf,hzz,hwf,hco,_,_⟩:=hcx.tab t _ htd
 obtain ⟨b,es',clock,hb,hnΦ,hblk,hent,hborn⟩:=hr.hp.ob id _ hl
 obtain ⟨b',hb',hxv⟩:=h1
 rw [hb] at hb'; cases hb'
 have hqv:VC w Φ k' q [a.eval y]:=keyOf_VC hq h2
 have fin:∀ (es2:Array MapEntry),EntR w Φ k' v' agg' (assocDel k'.eqK es q) es2.toList → BornOk es2.toList clock →
   (Builtin.delete_ c.argTypes o.type #[a.eval x,a.eval y]).run P w = .ok (.tuple #[]) { w with heap:=w.heap.setIfInBounds b (.map es2 clock) } → o.wp P a w next Q:=by
  intro es2 f1 f2 f3
  obtain ⟨q1,q2⟩:=MapKept.heap_set (o':=Obj.map es2 clock) hblk
  have hmine:=hr.mine hh hl rfl hb
  have m:Mono w Φ β s.heap { w with heap:=w.heap.setIfInBounds b (.map es2 clock) } Φ β (s.put id (.map k' v' agg' (assocDel k'.eqK es q))).heap:=by
   refine ⟨fun b' hb' => q2 b' (fun e => hnΦ (e ▸ hb')),fun _ h => h,fun _ _ h => h,?_,?_⟩
   · intro j x hx r hr
     simp only [St.put,look_cons] at hr
     split at hr
     · cases hr
     · exact hr
   · intro j b' o' r hj hr
     unfold blockSize
     by_cases e:b' = b
     · subst e; rw [hblk,q1]
     · rw [q2 b' e]
  refine alloc_step (x:=.one .undef) (v:=.tuple #[]) (w':={ w with heap:=w.heap.setIfInBounds b (.map es2 clock) }) (Φ':=Φ) (β':=β) hN hk h (hr.turn (o':=.map k' v' agg' (assocDel k'.eqK es q)) rfl rfl hl (.inl rfl) hh _ Φ ?_ (by simp) (fun _ h => h) (fun _ h => .inl h) ?_ (fun b' hb' => q2 b' (fun e => hnΦ (e ▸ hb'))) ?_ (.inr rfl) ?_) ?_ trivial
  · refine ⟨hr.same.os,hr.same.tape,hr.same.output,by simpa using hr.same.size,fun b' hb' hn => ?_⟩
    rw [q2 b' (fun e => ?_)]
    · exact hr.same.block b' hb' hn
    · subst e
      rcases hmine with g | g
      · exact hn g
      · omega
  · intro b' hb' hne
    exact q2 b' (fun e => by subst e; exact hne rfl 0 hb)
  · intro b' hb'
    unfold blockSize
    by_cases e:b' = b
    · subst e; rw [hblk]; simp only [q1]
    · rw [q2 b' e]
  · exact ⟨b,es2,clock,hb,hnΦ,q1,EntR_mono m.frz m.sub _ _ f1,f2⟩
  · simp [execOp,ho,resolve,hc,invoke,builtin,ha,f3]
 have hck:∀ bb n,(Instr.checkKey bb (n + 1) ktt (a.eval y)).run P w = .ok () w:=fun bb n => MapKept.run_checkKey hkd (keyD_isKey hkk hqv) bb n
 rcases del_spec (w:=w) (Φ:=Φ) hkk hqv es es'.toList 0 hent with ⟨f1,f2⟩ | ⟨j,e,f1,f2⟩
 · refine fin es' (by rw [f2]; exact hent) hborn ?_
   rw [hxv]
   unfold Builtin.delete_
   simp [hat,run_underlying hu,MapKept.run_getObj_map hblk,hck,MapKept.run_findKey hkd f1,MapKept.run_setObj_map _ hblk]
 · rw [Nat.zero_add] at f1
   refine fin (es'.eraseIdxIfInBounds j) (by rw [Array.toList_eraseIdxIfInBounds]; exact f2) ?_ ?_
   · rw [Array.toList_eraseIdxIfInBounds]
     exact ⟨fun e he => hborn.1 e ((List.eraseIdx_sublist _ _).subset he),hborn.2.sublist (List.eraseIdx_sublist _ _)⟩
   · rw [hxv]
     unfold Builtin.delete_
     simp [hat,run_underlying hu,MapKept.run_getObj_map hblk,hck,MapKept.run_findKey hkd f1,MapKept.run_setObj_map _ hblk]
end
section
variable {P:Program} {R:Type} {w0:World} {Φ0 own0:Nat → Prop} {N:Frm} {w:World} {Φ:Nat → Prop} {β:Loc} {s:St} {a:Act} {hp:List (Nat × SObj)}
variable {cx:Cx} {o:Oper} {next:Act → World → Prop} {Q:Exit → Act → World → Prop} {k:St → Option R} {r:R}
theorem Rel.rput (hr:Rel w0 Φ0 own0 N w Φ β s a) {id b q:Nat} {o o':SObj} (hir:o.isRows = true) (hir':o'.isRows = true) (hl:look s.heap id = some o) (hb:β id = some (some (b,q))) (hrow:rowOf (some o') = rowOf (some o)) {w':World}
  (hs:Same w0 own0 w') (hsz:w'.heap.size = w.heap.size) (hot:∀ b',b' ≠ b → w'.heap[b']? = w.heap[b']?) (hbs:blockSize w' b = blockSize w b) (hnΦ:¬ Φ b)
  (hgrow:∀ c,RowB w' β id o' c → RowB w β id o c ∨ (¬ Φ c ∧ c < w.heap.size ∧ (∀ j ob p,look s.heap j = some ob → ob.owned = true → β j ≠ some (some (c,p))) ∧ (∀ j ob,look s.heap j = some ob → ¬ RowB w β j ob c) ∧ (own0 c ∨ w0.heap.size ≤ c)))
  (hob:ObR w' Φ β (s.put id o').heap id o'):Rel w0 Φ0 own0 N w' Φ β (s.put id o') a ∧ Mono w Φ β s.heap w' Φ β (s.put id o').heap:=by
 have hown:o.owned = true:=by cases o <;> first | rfl | cases hir
 have hown':o'.owned = true:=by cases o' <;> first | rfl | cases hir'
 have hlk:∀ j ob,look (s.put id o').heap j = some ob → (j = id ∧ ob = o') ∨ (j ≠ id ∧ look s.heap j = some ob):=by
  intro j ob hj
  simp only [St.put,look_cons] at hj
  split at hj
  · rename_i e; exact .inl ⟨e.symm,by cases hj; rfl⟩
  · rename_i e; exact .inr ⟨fun e' => e e'.symm,hj⟩
 have hfrz:∀ c,Φ c → w'.heap[c]? = w.heap[c]?:=fun c hc => hot c (fun e => hnΦ (e ▸ hc))
 have m:Mono w Φ β s.heap w' Φ β (s.put id o').heap:=by
  refine ⟨hfrz,fun _ h => h,fun _ _ h => h,?_,?_⟩
  · intro j x hx r hr
    simp only [St.put,look_cons] at hr
    split at hr
    · rename_i e; subst e; rw [hl,← hrow]; exact hr
    · exact hr
  · intro j c o r hj hr
    by_cases e:c = b
    · rw [e]; exact hbs
    · unfold blockSize; rw [hot c e]
 have apart:∀ j ob c p,j ≠ id → look s.heap j = some ob → ob.owned = true → β j = some (some (c,p)) → w'.heap[c]? = w.heap[c]?:=fun j ob c p hne hj ho hc =>
  hot c (fun e => by subst e; exact hne (hr.hp.inj j id ob o _ p q hj hl ho hown hc hb))
 have apartR:∀ j ob c,look s.heap j = some ob → RowB w β j ob c → w'.heap[c]? = w.heap[c]?:=fun j ob c hj hc =>
  hot c (fun e => by subst e; exact (hr.hp.rin j ob _ hj hc).2.2 id o q hl hown hb)
 have hrl:∀ j ob c,look (s.put id o').heap j = some ob → RowB w' β j ob c → (j = id ∧ RowB w' β id o' c) ∨ (j ≠ id ∧ look s.heap j = some ob ∧ RowB w β j ob c):=by
  intro j ob c hj hc
  rcases hlk j ob hj with ⟨e1,e2⟩ | ⟨hne,hj⟩
  · subst e1; subst e2; exact .inl ⟨rfl,hc⟩
  · cases hirj:ob.isRows with
    | false => exact absurd hc (RowB_none hirj)
    | true =>
      have ho:ob.owned = true:=by cases ob <;> first | rfl | cases hirj
      exact .inr ⟨hne,hj,RowB_of (w:=w) rfl (fun c p hc => apart j ob c p hne hj ho hc) hc⟩
 have main:∀ j ob c p,look (s.put id o').heap j = some ob → ob.owned = true → β j = some (some (c,p)) → ∃ ob2,look s.heap j = some ob2 ∧ ob2.owned = true:=by
  intro j ob c p hj ho hc
  rcases hlk j ob hj with ⟨e1,_⟩ | ⟨_,hj⟩
  · rw [e1]; exact ⟨o,hl,hown⟩
  · exact ⟨ob,hj,ho⟩
 refine ⟨⟨fun t v hv => SVR_mono m _ _ (hr.env t v hv),⟨?_,hr.hp.lt,?_,?_,fun j c p h => by rw [hsz]; exact hr.hp.blt j c p h,fun c hc => by rw [hsz]; exact hr.hp.flt c hc,?_,?_⟩,?_,hs,hr.fri,hr.fro,hr.size,hr.fix,hr.defers.mono (fun d x hx h1 h2 => ⟨hot d (fun e => by subst e; exact ObR.off hx (hr.hp.ob id o hl) hown hb h1),h2⟩),hr.hold,hr.keep' m,?_⟩,m⟩
 · intro j ob hj
   rcases hlk j ob hj with ⟨e1,e2⟩ | ⟨hne,hj⟩
   · rw [e1,e2]; exact hob
   · cases ho:ob.owned with
     | true => exact ObR_mono m (fun c p hc => apart j ob c p hne hj ho hc) (fun _ _ _ _ h => h) (fun c hc => ⟨apartR j ob c hj hc,fun h => h⟩) (hr.hp.ob j ob hj)
     | false =>
       cases ob with
       | dead => trivial
       | frz e l =>
         rcases hr.hp.ob j _ hj with ⟨h1,h2⟩ | ⟨c,p,h1,h2,h4⟩
         · exact .inl ⟨h1,h2⟩
         · exact .inr ⟨c,p,h1,h2,RowAt_mono m (hfrz c h2) h4⟩
       | _ => cases ho
 · intro j ob hj
   rcases hlk j ob hj with ⟨e1,_⟩ | ⟨_,hj⟩
   · rw [e1]; exact hr.hp.hlt _ _ hl
   · exact hr.hp.hlt _ _ hj
 · intro j j' ob ob' c p p' hj hj' ho ho' hc hc'
   obtain ⟨x,hx1,hx2⟩:=main j ob c p hj ho hc
   obtain ⟨y,hy1,hy2⟩:=main j' ob' c p' hj' ho' hc'
   exact hr.hp.inj j j' x y c p p' hx1 hy1 hx2 hy2 hc hc'
 · intro j ob c hj hc
   rcases hrl j ob c hj hc with ⟨e1,hc⟩ | ⟨hne,hj2,hc⟩
   · rcases hgrow c hc with g | ⟨g1,g2,g3,_⟩
     · obtain ⟨g1,g2,g3⟩:=hr.hp.rin id o c hl g
       refine ⟨g1,by rw [hsz]; exact g2,fun j' ob' p hj' ho' h => ?_⟩
       obtain ⟨x,hx1,hx2⟩:=main j' ob' c p hj' ho' h
       exact g3 j' x p hx1 hx2 h
     · refine ⟨g1,by rw [hsz]; exact g2,fun j' ob' p hj' ho' h => ?_⟩
       obtain ⟨x,hx1,hx2⟩:=main j' ob' c p hj' ho' h
       exact g3 j' x p hx1 hx2 h
   · obtain ⟨g1,g2,g3⟩:=hr.hp.rin j ob c hj2 hc
     refine ⟨g1,by rw [hsz]; exact g2,fun j' ob' p hj' ho' h => ?_⟩
     obtain ⟨x,hx1,hx2⟩:=main j' ob' c p hj' ho' h
     exact g3 j' x p hx1 hx2 h
 · intro j j' ob ob' c hj hj' hc hc'
   rcases hrl j ob c hj hc with ⟨e1,hc⟩ | ⟨hne,hj2,hc⟩ <;> rcases hrl j' ob' c hj' hc' with ⟨e1',hc'⟩ | ⟨hne',hj2',hc'⟩
   · rw [e1,e1']
   · rcases hgrow c hc with g | ⟨_,_,_,g4,_⟩
     · rw [e1]; exact hr.hp.rinj id j' o ob' c hl hj2' g hc'
     · exact absurd hc' (g4 j' ob' hj2')
   · rcases hgrow c hc' with g | ⟨_,_,_,g4,_⟩
     · rw [e1']; exact hr.hp.rinj j id ob o c hj2 hl hc g
     · exact absurd hc (g4 j ob hj2)
   · exact hr.hp.rinj j j' ob ob' c hj2 hj2' hc hc'
 · intro j ob c p hj ho hc
   obtain ⟨x,hx1,hx2⟩:=main j ob c p hj ho hc
   exact hr.own j x c p hx1 hx2 hc
 · intro j ob c hj hc
   rcases hrl j ob c hj hc with ⟨e1,hc⟩ | ⟨hne,hj2,hc⟩
   · rcases hgrow c hc with g | ⟨_,_,_,_,g5⟩
     · exact hr.rown id o c hl g
     · exact g5
   · exact hr.rown j ob c hj2 hc
theorem Rel.taken (hr:Rel w0 Φ0 own0 N w Φ β s a) {e:CT} {v:Value} {row:List e.denote} (hv:RowV w Φ e v row) (hpos:0 < e.size)
  (hc:∀ c,PtB v c → (∀ j ob p,look s.heap j = some ob → ob.owned = true → β j ≠ some (some (c,p))) ∧ c < w.heap.size ∧ (own0 c ∨ w0.heap.size ≤ c) ∧ ∀ j ob,look s.heap j = some ob → ¬ RowB w β j ob c) :
  ∃ β',Rel w0 Φ0 own0 N w Φ β' (s.new (.arr e row)) a ∧ SVR w Φ β' (s.new (.arr e row)).heap (.one (.sl s.next none)) v:=by
 rcases hv with ⟨⟨z,h1⟩,h2⟩ | ⟨c,o,cap,h1,h2,h3,h4,h5,h6,h7,h8⟩
 · subst h2
   refine ⟨β.at s.next none,hr.adopt (.arr e []) rfl none (fun _ _ h => by cases h) (.inl ⟨by simp [Loc.at],rfl⟩),none,by simp [Loc.at],⟨z,0,0,h1⟩,fun sz n hrw => ?_⟩
   simp only [St.new,look_cons,if_true,rowOf] at hrw
   cases hrw
   exact ⟨⟨z,h1⟩,rfl,rfl⟩
 · refine ⟨β.at s.next (some (c,o)),hr.adopt (.arr e row) rfl (some (c,o)) (fun b p h => ?_) (.inr ⟨c,o,by simp [Loc.at],h6,h7,h8⟩),some (c,o),by simp [Loc.at],⟨_,_,_,h1⟩,fun sz n hrw => ?_⟩
   · simp only [Option.some.injEq,Prod.mk.injEq] at h
     obtain ⟨rfl,rfl⟩:=h
     exact hc _ ⟨_,_,cap,h1,h2⟩
   · simp only [St.new,look_cons,if_true,rowOf] at hrw
     cases hrw
     exact ⟨o,cap,h1,h3,.inl (by simp),by simp,.inl h4,fun _ => ⟨rfl,h4,h5⟩⟩
theorem row_out {id:Nat} {o o':SObj} {hs:List Value} {i:Nat} {v:Value} (h:HdR w β id o hs none) (hd:∀ hs' g',HdR w β id o' hs' g' → HdR w β id o hs' none ∧ hs' = hs ∧ g' = some i) (hv:hs[i]? = some v)
  (hdis:∀ (i j:Nat) (v v':Value) (c:Nat),hs[i]? = some v → hs[j]? = some v' → PtB v c → PtB v' c → i = j) {c:Nat} (hc:RowB w β id o' c):RowB w β id o c ∧ ¬ PtB v c:=by
 obtain ⟨hs',g',h1,j,v',h2,h3,h4⟩:=hc
 obtain ⟨k1,rfl,rfl⟩:=hd hs' g' h1
 refine ⟨⟨_,none,k1,j,v',h2,by simp,h4⟩,fun h5 => h3 ?_⟩
 rw [hdis i j v v' c hv h2 h5 h4]
theorem step_take (hcx:CxOk P cx) (hr:Rel w0 Φ0 own0 N w Φ β s a) (hN:∀ d,o.dst = some d → N.ok d) (hk:∀ s' a' w' Φ' β',Rel w0 Φ0 own0 N w' Φ' β' s' a' → k s' = some r → next a' w')
  {t:TypeId} {x:Operand} (ho:o.op = .load t x) {id i n:Nat} {e:CT} {l:List (List e.denote)} {row:List e.denote} (htd:cx.tab t = some (.slice e n)) (hx:evalO s.env x = some (.one (.eptr id i 0))) (hl:look s.heap id = some (.rows e l none))
  (hn:nth l i = some row) (h:takeK s id (.rows e l (some i)) e row (fun r s' => k (s'.set o.dst r)) = some r):o.wp P a w next Q:=by
 unfold takeK at h
 obtain ⟨hc,h⟩:=cond_none h
 simp only [and_eq_true,Bool.not_eq_true'] at hc
 obtain ⟨hh,hpos⟩:=hc
 rw [Nat.blt_eq] at hpos
 obtain ⟨b,q,hs,h1,h2,h3,h4,h5⟩:=hr.hp.ob id _ hl
 rw [nth_getElem?] at hn
 have hi:=(List.getElem?_eq_some_iff.1 hn).1
 have hlt:i < hs.length:=by have:=h5.len; omega
 obtain ⟨v,hv⟩:∃ v,hs[i]? = some v:=⟨_,List.getElem?_eq_getElem hlt⟩
 have hdr:HdR w β id (.rows e l none) hs none:=⟨rfl,h5.len,b,q,h1,h4⟩
 have hd:∀ hs' g',HdR w β id (.rows e l (some i)) hs' g' → HdR w β id (.rows e l none) hs' none ∧ hs' = hs ∧ g' = some i:=by
  rintro hs' g' ⟨k1,k2,b',q',k3,k4⟩
  rw [h1] at k3; cases k3
  have:=cellsAt_fun k4 h4 (by rw [k2,h5.len])
  subst this
  exact ⟨hdr,rfl,k1⟩
 have hdis:∀ (i j:Nat) (v v':Value) (c:Nat),hs[i]? = some v → hs[j]? = some v' → PtB v c → PtB v' c → i = j:=fun i j v v' c g1 g2 g3 g4 => h5.dis i j v v' c g1 g2 (by simp) (by simp) g3 g4
 obtain ⟨hr1,m1⟩:=hr.rput (o':=.rows e l (some i)) rfl rfl hl h1 rfl hr.same rfl (fun _ _ => rfl) rfl h2 (fun c hc => .inl (row_out hdr hd hv hdis hc).1)
  ⟨b,q,hs,h1,h2,h3,h4,h5.len,fun j v' r' g1 g2 _ => h5.row j v' r' g1 g2 (by simp),fun i j v v' c g1 g2 _ _ g3 g4 => hdis i j v v' c g1 g2 g3 g4⟩
 have hrv:=h5.row i v row hv hn (by simp)
 have hRB:∀ c,PtB v c → RowB w β id (.rows e l none) c:=fun c hc => ⟨hs,none,hdr,i,v,hv,by simp,hc⟩
 obtain ⟨β',hr2,hsv⟩:=hr1.taken hrv hpos (fun c hc => by
  obtain ⟨g1,g2,g3⟩:=hr.hp.rin id _ c hl (hRB c hc)
  refine ⟨fun j ob p hj hown hb => ?_,g2,hr.rown id _ c hl (hRB c hc),fun j ob hj hcb => ?_⟩
  · simp only [St.put,look_cons] at hj
    split at hj
    · rename_i e'; subst e'; exact g3 _ _ p hl rfl hb
    · exact g3 j ob p hj hown hb
  · simp only [St.put,look_cons] at hj
    split at hj
    · rename_i e'; subst e'; cases hj; exact (row_out hdr hd hv hdis hcb).2 hc
    · rename_i hne; exact hne (hr.hp.rinj id j _ ob c hl hj (hRB c hc) hcb))
 obtain ⟨loc,g1,_,g3⟩:=hr.eval hx
 obtain ⟨b2,q2,e1,e2⟩:=g3 1 l.length (by rw [hl]; rfl)
 subst e1
 rw [h1] at g1; cases g1
 have hcell:=cellsAt_get hs q b h4 i v hv
 have hok:=hcx.tab t _ htd
 have hrun:=run_loadVar (P:=P) (w:=w) hok (b:=b) (o:=q + i) (vs:=[v]) ⟨hcell,trivial⟩ rfl
 refine upon_ok (v:=v) (w':=w) ?_ (hk _ _ _ _ _ (hr2.set hsv hN) h)
 have e2':a.eval x = .pointer (some ⟨b,q + i,none⟩):=by rw [e2]; simp
 have e3:valOf (TD.slice e n).agg [v] = v:=rfl
 rw [e3] at hrun
 simp [execOp,ho,Instr.loadAt,e2',Instr.sureAddr,hrun]
theorem rowK_spec {e:CT} {v:SVal} {kk:Nat → List e.denote → Option R} (h:rowK s e v kk = some r):∃ id row,v = .one (.sl id none) ∧ look s.heap id = some (.arr e row) ∧ s.held id = false ∧ 0 < e.size ∧ kk id row = some r:=by
 unfold rowK at h
 split at h
 case h_2 => cases h
 rename_i id
 split at h
 case h_2 => cases h
 rename_i e' row hl
 split at h
 case isFalse => cases h
 rename_i he
 subst he
 obtain ⟨hc,h⟩:=cond_none h
 simp only [and_eq_true,Bool.not_eq_true'] at hc
 exact ⟨id,row,rfl,hl,hc.1,by rw [← Nat.blt_eq]; exact hc.2,h⟩
theorem own_row (hr:Rel w0 Φ0 own0 N w Φ β s a) {id:Nat} {e:CT} {row:List e.denote} {v:Value} (hl:look s.heap id = some (.arr e row)) (hv:LfR w Φ β s.heap (.sl id none) v) (hpos:0 < e.size) :
  RowV w Φ e v row ∧ ∀ c,PtB v c → ∃ p,β id = some (some (c,p)):=by
 obtain ⟨loc,h1,_,h2⟩:=hv
 have h3:=h2 e.size row.length (by rw [hl]; rfl)
 cases loc with
 | none =>
   obtain ⟨⟨z,k1⟩,k2,_⟩:=h3
   exact ⟨.inl ⟨⟨z,k1⟩,List.eq_nil_of_length_eq_zero k2⟩,fun c ⟨o,n,cap,k3,k4⟩ => by rw [k1] at k3; cases k3; omega⟩
 | some bo =>
   obtain ⟨b,p⟩:=bo
   obtain ⟨o',cap,k1,k2,k3,k4,k5,k6⟩:=h3
   obtain ⟨k7,k8,_⟩:=k6 rfl
   subst k7
   simp only [Option.getD_none] at k1 k2
   by_cases h0:cap = 0
   · subst h0
     have h0:row.length = 0:=by omega
     rw [h0] at k1
     exact ⟨.inl ⟨⟨_,k1⟩,List.eq_nil_of_length_eq_zero h0⟩,fun c ⟨o,n,cap,k3,k4⟩ => by rw [k1] at k3; cases k3; omega⟩
   · rcases hr.hp.ob id _ hl with ⟨g1,_⟩ | ⟨b',p',g1,g2,g3,g4⟩
     · rw [h1] at g1; cases g1
     · rw [h1] at g1; cases g1
       exact ⟨.inr ⟨b,_,cap,k1,by omega,k2,k8,hpos,g2,g3,g4⟩,fun c ⟨o,n,cap,k3,k4⟩ => by rw [k1] at k3; cases k3; exact ⟨_,h1⟩⟩
theorem step_put (hcx:CxOk P cx) (hr:Rel w0 Φ0 own0 N w Φ β s a) (hN:∀ d,o.dst = some d → N.ok d) (hk:∀ s' a' w' Φ' β',Rel w0 Φ0 own0 N w' Φ' β' s' a' → k s' = some r → next a' w')
  {t:TypeId} {x y:Operand} (ho:o.op = .store t x y) {id i n:Nat} {e e2:CT} {l:List (List e.denote)} {g:Option Nat} {u:SVal} (htd:cx.tab t = some (.slice e2 n)) (hx:evalO s.env x = some (.one (.eptr id i 0))) (hy:evalO s.env y = some u) (hl:look s.heap id = some (.rows e l g))
  (h:rowK s e u (fun id' row => bif outB g i && (Nat.blt i l.length && !s.held id) then k (((s.put id' .dead).put id (.rows e (setNth l i row) none)).set o.dst (.one .undef)) else none) = some r):o.wp P a w next Q:=by
 obtain ⟨id',row,hu,hl',hh',hpos,h7⟩:=rowK_spec h
 clear h
 subst hu
 obtain ⟨hc,h⟩:=cond_none h7
 simp only [and_eq_true,Bool.not_eq_true'] at hc
 obtain ⟨hout,hil,hh⟩:=hc
 rw [Nat.blt_eq] at hil
 have hne:id ≠ id':=fun e' => by subst e'; rw [hl] at hl'; cases hl'
 obtain ⟨b,q,hs,h1,h2,h3,h4,h5⟩:=hr.hp.ob id _ hl
 have hlt:i < hs.length:=by have:=h5.len; omega
 obtain ⟨v0,hv0⟩:∃ v,hs[i]? = some v:=⟨_,List.getElem?_eq_getElem hlt⟩
 have hyv:LfR w Φ β s.heap (.sl id' none) (a.eval y):=hr.eval hy
 obtain ⟨hrv,hpt⟩:=own_row hr hl' hyv hpos
 have hone:(a.eval y).oneCell' = true:=LfR_oneCell hyv rfl
 have hcells:(a.eval y).cells.toList = [a.eval y]:=by cases hv:a.eval y <;> first | rfl | (rw [hv] at hone; cases hone)
 obtain ⟨loc,g1,_,g3⟩:=hr.eval hx
 obtain ⟨b2,q2,e1,e2'⟩:=g3 1 l.length (by rw [hl]; rfl)
 subst e1
 rw [h1] at g1; cases g1
 have e3:a.eval x = .pointer (some ⟨b,q + i,none⟩):=by rw [e2']; simp
 have hok:=hcx.tab t _ htd
 have hcell:=cellsAt_get hs q b h4 i v0 hv0
 obtain ⟨w',r1,r2⟩:=run_storeVar (P:=P) (w:=w) hok (b:=b) (o:=q + i) (v:=a.eval y) (by rw [← Array.length_toList,hcells]; rfl) (by rw [hcells]; simpa using hone)
  (fun j hj => by
    rw [← Array.length_toList,hcells] at hj
    simp only [List.length_singleton] at hj
    have:j = 0:=by omega
    subst this
    rw [Nat.add_zero,hcell]; rfl) h3
 rw [hcells] at r2
 have hr1:=hr.give (ob:=.arr e row) rfl hl' rfl hh'
 have hl1:look (s.put id' .dead).heap id = some (.rows e l g):=by
  simp only [St.put,look_cons]; rw [if_neg (fun e' => hne e'.symm)]; exact hl
 have hgi:g = none ∨ g = some i:=by
  cases g with
  | none => exact .inl rfl
  | some j => exact .inr (by rw [Nat.eq_of_beq_eq_true hout])
 have hset:cellsAt w' b q (hs.set i (a.eval y)):=r2.cells h4 _ (by simp) (fun j hj => by
  rw [List.getElem?_set]
  by_cases hji:i = j
  · subst hji; rw [if_pos rfl,if_pos hlt,if_pos (by simp)]; simp
  · rw [if_neg hji,if_neg (by simp; omega)])
 have hget:∀ j v,(hs.set i (a.eval y))[j]? = some v → (j = i ∧ v = a.eval y) ∨ (j ≠ i ∧ hs[j]? = some v):=by
  intro j v hj
  rw [List.getElem?_set] at hj
  by_cases hji:i = j
  · subst hji; rw [if_pos rfl,if_pos hlt] at hj; exact .inl ⟨rfl,(Option.some.inj hj).symm⟩
  · rw [if_neg hji] at hj; exact .inr ⟨fun e' => hji e'.symm,hj⟩
 have hgj:∀ j,j ≠ i → g ≠ some j:=by
  intro j hj e'
  rcases hgi with g0 | g0
  · rw [g0] at e'; cases e'
  · rw [g0] at e'; cases e'; exact hj rfl
 have hold:∀ j v c,j ≠ i → hs[j]? = some v → PtB v c → RowB w β id (.rows e l g) c:=fun j v c hj hv hc => ⟨hs,g,⟨rfl,h5.len,b,q,h1,h4⟩,j,v,hv,hgj j hj,hc⟩
 have hnewc:∀ c,PtB (a.eval y) c → ¬ Φ c ∧ c < w.heap.size ∧ (∀ j ob p,look (s.put id' .dead).heap j = some ob → ob.owned = true → β j ≠ some (some (c,p))) ∧ (∀ j ob,look (s.put id' .dead).heap j = some ob → ¬ RowB w β j ob c) ∧ (own0 c ∨ w0.heap.size ≤ c):=by
  intro c hc
  obtain ⟨p,hp⟩:=hpt c hc
  refine ⟨?_,hr.hp.blt _ _ _ hp,fun j ob p' hj hown hb => ?_,norow hr hl' rfl hp (fun _ _ => rfl),hr.mine hh' hl' rfl hp⟩
  · rcases hr.hp.ob id' _ hl' with ⟨k1,_⟩ | ⟨c',p',k1,k2,_⟩
    · rw [hp] at k1; cases k1
    · rw [hp] at k1; cases k1; exact k2
  · simp only [St.put,look_cons] at hj
    split at hj
    · cases hj; cases hown
    · rename_i hne'; exact hne' (hr.hp.inj id' j _ ob c p p' hl' hj rfl hown hp hb)
 have hot:∀ c,c ≠ b → w'.heap[c]? = w.heap[c]?:=r2.other
 have hnb:∀ c,PtB (a.eval y) c → c ≠ b:=fun c hc e' => by
  subst e'
  exact (hnewc _ hc).2.2.1 id _ q hl1 rfl h1
 have m0:Mono w Φ β (s.put id' .dead).heap w' Φ β ((s.put id' .dead).put id (.rows e (setNth l i row) none)).heap:=by
  refine ⟨fun c hc => hot c (fun e' => h2 (e' ▸ hc)),fun _ h => h,fun _ _ h => h,?_,?_⟩
  · intro j x hx r hr
    simp only [St.put,look_cons] at hr ⊢
    split at hr
    · rename_i e'; subst e'
      rw [if_neg (fun e' => hne e'.symm),hl]
      simpa [rowOf,setNth_len] using hr
    · exact hr
  · intro j c o r hj hr
    by_cases e':c = b
    · subst e'; exact r2.bs
    · unfold blockSize; rw [hot c e']
 obtain ⟨hr2,_⟩:=hr1.rput (o':=.rows e (setNth l i row) none) rfl rfl hl1 h1 (by simp [rowOf,setNth_len]) (r2.same hr.same (hr.mine hh hl rfl h1)) r2.size hot r2.bs h2
  (fun c hc => by
    obtain ⟨hs2,g2,⟨k1,k2,b3,q3,k3,k4⟩,j,v,k5,k6,k7⟩:=hc
    rw [h1] at k3; cases k3
    have:hs2 = hs.set i (a.eval y):=cellsAt_fun k4 hset (by rw [k2]; simp [setNth_len,h5.len])
    subst this
    rcases hget j v k5 with ⟨e4,e5⟩ | ⟨e4,e5⟩
    · subst e5; exact .inr (hnewc c k7)
    · exact .inl (hold j v c e4 e5 k7))
  ⟨b,q,hs.set i (a.eval y),h1,h2,r2.fz h3,hset,by simp [setNth_len,h5.len],fun j v r' k1 k2 _ => by
   rw [setNth_getElem?] at k2
   rcases hget j v k1 with ⟨e4,e5⟩ | ⟨e4,e5⟩
   · subst e4; subst e5
     rw [if_pos ⟨rfl,hil⟩] at k2
     cases k2
     exact RowV_mono m0 (fun c hc => ⟨hot c (hnb c hc),fun h => h⟩) hrv
   · rw [if_neg (fun e6 => e4 e6.1)] at k2
     refine RowV_mono m0 (fun c hc => ⟨hot c (fun e' => ?_),fun h => h⟩) (h5.row j v r' e5 k2 (hgj j e4))
     subst e'
     exact (hr.hp.rin id _ _ hl (hold j v _ e4 e5 hc)).2.2 id _ q hl rfl h1,
   fun j j' v v' c k1 k2 _ _ k3 k4 => by
    rcases hget j v k1 with ⟨e4,e5⟩ | ⟨e4,e5⟩ <;> rcases hget j' v' k2 with ⟨e4',e5'⟩ | ⟨e4',e5'⟩
    · rw [e4,e4']
    · subst e5
      obtain ⟨p,hp⟩:=hpt c k3
      exact absurd hp ((hr.hp.rin id _ c hl (hold j' v' c e4' e5' k4)).2.2 id' _ p hl' rfl)
    · subst e5'
      obtain ⟨p,hp⟩:=hpt c k4
      exact absurd hp ((hr.hp.rin id _ c hl (hold j v c e4 e5 k3)).2.2 id' _ p hl' rfl)
    · exact h5.dis j j' v v' c e5 e5' (hgj j e4) (hgj j' e4') k3 k4⟩
 refine upon_skip (w':=w') ?_ (hk _ _ _ _ _ (hr2.set (sv:=.one .undef) (v:=undef) trivial hN) h)
 simp [execOp,ho,Instr.storeAt,e3,Instr.sureAddr,r1]
theorem step_load (hcx:CxOk P cx) (hr:Rel w0 Φ0 own0 N w Φ β s a) (hN:∀ d,o.dst = some d → N.ok d) (hk:∀ s' a' w' Φ' β',Rel w0 Φ0 own0 N w' Φ' β' s' a' → k s' = some r → next a' w')
  {t:TypeId} {x:Operand} (ho:o.op = .load t x) (hg:GvR cx.gv w Φ) (h:stepK cx o s k = some r):o.wp P a w next Q:=by
 simp only [stepK,ho] at h
 split at h
 · rename_i u hu
   split at h
   case h_2 => cases h
   rename_i td htd
   exact step_loadK hcx hr hN hk ho htd (gOp_sound hg hu) h
 split at h
 case h_2 => cases h
 rename_i td u htd hx
 rcases loadS_cases h with h | ⟨id,i,e,l,n,row,e1,e2,e3,e4,e5⟩
 · exact step_loadK hcx hr hN hk ho htd (hr.eval hx) h
 · subst e1; subst e3
   exact step_take hcx hr hN hk ho htd hx e2 e4 e5
theorem step_store (hcx:CxOk P cx) (hr:Rel w0 Φ0 own0 N w Φ β s a) (hN:∀ d,o.dst = some d → N.ok d) (hk:∀ s' a' w' Φ' β',Rel w0 Φ0 own0 N w' Φ' β' s' a' → k s' = some r → next a' w')
  {t:TypeId} {x y:Operand} (ho:o.op = .store t x y) (h:stepK cx o s k = some r):o.wp P a w next Q:=by
 simp only [stepK,ho] at h
 split at h
 case h_2 => cases h
 rename_i td v u htd hx hy
 unfold storeS at h
 split at h
 · rename_i id i
   split at h
   · rename_i e l g hl
     split at h
     · rename_i e2 n
       exact step_put hcx hr hN hk ho htd hx hy hl h
     · cases h
   · exact step_storeK hcx hr hN hk ho htd hx hy h
 · exact step_storeK hcx hr hN hk ho htd hx hy h
theorem KeysR_get {kt:CT}:∀ {l:List kt.denote} {es:List MapEntry},KeysR w Φ kt l es → es.length = l.length ∧ ∀ (i:Nat) (x:kt.denote) (e:MapEntry),l[i]? = some x → es[i]? = some e → VC w Φ kt x [e.key]
 | [],es,h => by cases h; exact ⟨rfl,fun i x e h => by simp at h⟩
 | y :: l,es,⟨e,es',e1,e2,e3⟩ => by
   subst e1
   obtain ⟨h1,h2⟩:=KeysR_get e3
   refine ⟨by simp [h1],fun i x e' hx he => ?_⟩
   cases i with
   | zero => simp at hx he; subst hx; subst he; exact e2
   | succ i => exact h2 i x e' (by simpa using hx) (by simpa using he)
theorem KeysR_of {kt:CT}:∀ {l:List kt.denote} {es:List MapEntry},es.length = l.length → (∀ (i:Nat) (x:kt.denote) (e:MapEntry),l[i]? = some x → es[i]? = some e → VC w Φ kt x [e.key]) → KeysR w Φ kt l es
 | [],es,h,_ => List.eq_nil_of_length_eq_zero h
 | y :: l,[],h,_ => by simp at h
 | y :: l,e :: es,h,hv => ⟨e,es,rfl,hv 0 y e rfl rfl,KeysR_of (by simpa using h) (fun i x e' hx he => hv (i + 1) x e' (by simpa using hx) (by simpa using he))⟩
theorem find_keys {c:CT} {V:Type} {d:TypeDesc} (hd:keyD c d) {x:c.denote} {kv:Value} (hx:VC w Φ c x [kv]):∀ (l:List (c.denote × V)) (es:List MapEntry) (i:Nat),KeysR w Φ c (l.map (·.1)) es →
  (assocIx c.eqK l x i = none ∧ assoc c.eqK l x = none ∧ Instr.findNow d kv es i = some none ∧ ∀ z,assocSet c.eqK l x z = l ++ [(x,z)]) ∨
  ∃ j e y,assocIx c.eqK l x i = some (i + j) ∧ assoc c.eqK l x = some y ∧ l[j]?.map (·.2) = some y ∧ es[j]? = some e ∧ e.key = kv ∧ Instr.findNow d kv es i = some (some (i + j,e.val)) ∧ ∀ z,assocSet c.eqK l x z = l.set j (x,z)
 | [],es,i,h => by cases h; exact .inl ⟨rfl,rfl,rfl,fun z => rfl⟩
 | p :: l,es,i,⟨e,es',e1,e2,e5⟩ => by
   subst e1
   have hs:=same_eqK hd hx e2
   cases hb:c.eqK x p.1 with
   | true =>
     rw [hb] at hs
     have hk:kv = e.key:=eqK_same hd hx e2 hb
     exact .inr ⟨0,e,p.2,by simp [assocIx,hb],by simp [assoc,hb],rfl,rfl,hk.symm,by simp [Instr.findNow,hs],fun z => by simp [assocSet,hb]⟩
   | false =>
     rw [hb] at hs
     rcases find_keys hd hx l es' (i + 1) e5 with ⟨g1,g2,g3,g4⟩ | ⟨j,e',y,g1,g2,g3,g4,g5,g6,g7⟩
     · exact .inl ⟨by simp [assocIx,hb,g1],by simp [assoc,hb,g2],by simp [Instr.findNow,hs,g3],fun z => by simp [assocSet,hb,g4]⟩
     · exact .inr ⟨j + 1,e',y,by simp [assocIx,hb,g1]; omega,by simp [assoc,hb,g2],by simpa using g3,by simpa using g4,g5,by simp [Instr.findNow,hs,g6]; omega,fun z => by simp [assocSet,hb,g7]⟩
def foundV (z:Value):Option (Nat × Value) → Value
 | some (_,v) => v
 | none => z
theorem step_takeM (hcx:CxOk P cx) (hr:Rel w0 Φ0 own0 N w Φ β s a) (hN:∀ d,o.dst = some d → N.ok d) (hk:∀ s' a' w' Φ' β',Rel w0 Φ0 own0 N w' Φ' β' s' a' → k s' = some r → next a' w')
  {t:TypeId} {x i:Operand} (ho:o.op = .lookup t x i false) {id:Nat} {kt e:CT} {l:List (kt.denote × List e.denote)} {lf:Leaf} {y:kt.denote} (htd:cx.tab t = some (.map kt (.list e) false)) (hx:evalO s.env x = some (.one (.mp id))) (hi:evalO s.env i = some (.one lf))
  (hl:look s.heap id = some (.mrows kt e l none)) (hy:keyOf kt lf = some y) (h:takeK s id (.mrows kt e l (assocIx kt.eqK l y 0)) e (assocGet kt.eqK [] l y) (fun r s' => k (s'.set o.dst r)) = some r):o.wp P a w next Q:=by
 unfold takeK at h
 obtain ⟨hc,h⟩:=cond_none h
 simp only [and_eq_true,Bool.not_eq_true'] at hc
 obtain ⟨hh,hpos⟩:=hc
 rw [Nat.blt_eq] at hpos
 obtain ⟨_,ktt,et,hu,⟨d,hkd,hkk⟩,inf,z,hinf,hz,hwf,hco,hzz,hone⟩:=hcx.tab t _ htd
 obtain ⟨b,es,clock,h1,h2,h3,h4,h5,h6⟩:=hr.hp.ob id _ hl
 obtain ⟨b',hb',hxv⟩:=hr.eval hx
 rw [h1] at hb'; cases hb'
 have hyv:VC w Φ kt y [a.eval i]:=keyOf_VC hy (hr.eval hi)
 have hzv:z = .slice none 0 0:=by
  obtain ⟨v,vs,e1,e2,e3⟩:=hco
  cases e3
  have hv:v = .slice none 0 0:=e2
  rw [hzz,e1]
  show v = _
  exact hv
 have hdr:HdR w β id (.mrows kt e l none) (es.toList.map (·.val)) none:=⟨rfl,b,es,clock,h1,h3,rfl⟩
 have hrun:∀ (q:Option (Nat × Value)),Instr.findNow d (a.eval i) es.toList 0 = some q → (execOp a.eval o).run P w = .ok (.value (foundV z q)) w:=by
  intro q hq
  have:(Instr.lookup t (a.eval x) (a.eval i) false).run P w = .ok (foundV z q) w:=by
   rw [hxv]
   unfold Instr.lookup
   simp only [Sem.run_bind,run_underlying hu,Result.andThen_ok,MapKept.run_getObj_map h3,Sem.run_pure,MapKept.run_checkKey hkd (keyD_isKey hkk hyv),MapKept.run_findKey hkd hq]
   cases q with
   | none => simp [zeroValue,run_info hinf,hz,foundV]
   | some p => obtain ⟨p1,p2⟩:=p; simp [foundV]
  simp [execOp,ho,this]
 have go:∀ (g:Option Nat) (v:Value) (row:List e.denote),RowV w Φ e v row → (∀ c,PtB v c → RowB w β id (.mrows kt e l none) c) → (∀ c,RowB w β id (.mrows kt e l g) c → RowB w β id (.mrows kt e l none) c ∧ ¬ PtB v c) →
   (execOp a.eval o).run P w = .ok (.value v) w → k (((s.put id (.mrows kt e l g)).new (.arr e row)).set o.dst (.one (.sl s.next none))) = some r → o.wp P a w next Q:=by
  intro g v row hrv hRB hsub hex hkk
  obtain ⟨hr1,m1⟩:=hr.rput (o':=.mrows kt e l g) rfl rfl hl h1 rfl hr.same rfl (fun _ _ => rfl) rfl h2 (fun c hc => .inl (hsub c hc).1)
   ⟨b,es,clock,h1,h2,h3,h4,h5,h6.len,fun j v' r' g1 g2 _ => h6.row j v' r' g1 g2 (by simp),fun i j v v' c g1 g2 _ _ g3 g4 => h6.dis i j v v' c g1 g2 (by simp) (by simp) g3 g4⟩
  obtain ⟨β',hr2,hsv⟩:=hr1.taken hrv hpos (fun c hc => by
   obtain ⟨g1,g2,g3⟩:=hr.hp.rin id _ c hl (hRB c hc)
   refine ⟨fun j ob p hj hown hb => ?_,g2,hr.rown id _ c hl (hRB c hc),fun j ob hj hcb => ?_⟩
   · simp only [St.put,look_cons] at hj
     split at hj
     · rename_i e'; subst e'; exact g3 _ _ p hl rfl hb
     · exact g3 j ob p hj hown hb
   · simp only [St.put,look_cons] at hj
     split at hj
     · rename_i e'; subst e'; cases hj; exact (hsub c hcb).2 hc
     · rename_i hne; exact hne (hr.hp.rinj id j _ ob c hl hj (hRB c hc) hcb))
  exact upon_ok hex (hk _ _ _ _ _ (hr2.set hsv hN) hkk)
 rcases find_keys hkk hyv l es.toList 0 h4 with ⟨g1,g2,g3,_⟩ | ⟨j,en,row,g1,g2,g3,g4,g5,g6,_⟩
 · rw [g1] at h
   have hrow:assocGet kt.eqK ([]:List e.denote) l y = []:=by simp [assocGet,g2]
   rw [hrow] at h
   refine go none z [] (.inl ⟨⟨none,hzv⟩,rfl⟩) (fun c ⟨o',n',cap,e1,e2⟩ => by rw [hzv] at e1; cases e1) (fun c hc => ⟨hc,fun ⟨o',n',cap,e1,e2⟩ => by rw [hzv] at e1; cases e1⟩) (hrun none g3) h
 · rw [Nat.zero_add] at g1 g6
   rw [g1] at h
   have hrow:assocGet kt.eqK ([]:List e.denote) l y = row:=by simp [assocGet,g2]
   rw [hrow] at h
   have hv:(es.toList.map (·.val))[j]? = some en.val:=by rw [List.getElem?_map,g4]; rfl
   have hd:∀ hs' g',HdR w β id (.mrows kt e l (some j)) hs' g' → HdR w β id (.mrows kt e l none) hs' none ∧ hs' = es.toList.map (·.val) ∧ g' = some j:=by
    rintro hs' g' ⟨k1,b',es',cl',k2,k3,k4⟩
    rw [h1] at k2; cases k2
    rw [h3] at k3; cases k3
    subst k4
    exact ⟨hdr,rfl,k1⟩
   refine go (some j) en.val row (h6.row j en.val row hv (by rw [List.getElem?_map]; exact g3) (by simp)) (fun c hc => ⟨_,none,hdr,j,en.val,hv,by simp,hc⟩) (fun c hc => row_out hdr hd hv (fun i j v v' c q1 q2 q3 q4 => h6.dis i j v v' c q1 q2 (by simp) (by simp) q3 q4) hc) (hrun _ g6) h
theorem step_lookup (hcx:CxOk P cx) (hr:Rel w0 Φ0 own0 N w Φ β s a) (hN:∀ d,o.dst = some d → N.ok d) (hk:∀ s' a' w' Φ' β',Rel w0 Φ0 own0 N w' Φ' β' s' a' → k s' = some r → next a' w')
  {t:TypeId} {x i:Operand} {ok:Bool} (ho:o.op = .lookup t x i ok) (h:stepK cx o s k = some r):o.wp P a w next Q:=by
 simp only [stepK,ho] at h
 split at h
 case h_2 => cases h
 rename_i td v j htd hx hi
 rcases lookupS_cases h with h | ⟨id,kt,e,l,lf,y,e1,e2,e3,e4,e5,e6,e7⟩
 · exact step_lookupK hcx hr hN hk ho htd hx hi h
 · subst e1; subst e3; subst e4; subst e5
   exact step_takeM hcx hr hN hk ho htd hx hi e2 e6 e7
theorem step_putM (hcx:CxOk P cx) (hr:Rel w0 Φ0 own0 N w Φ β s a) (hN:∀ d,o.dst = some d → N.ok d) (hk:∀ s' a' w' Φ' β',Rel w0 Φ0 own0 N w' Φ' β' s' a' → k s' = some r → next a' w')
  {t:TypeId} {x i y:Operand} (hex:∀ w',(Instr.mapUpdate t (a.eval x) (a.eval i) (a.eval y)).run P w = .ok () w' → (execOp a.eval o).run P w = .ok .skip w')
  {id:Nat} {kt e:CT} {l:List (kt.denote × List e.denote)} {g:Option Nat} {lf:Leaf} {q:kt.denote} {u:SVal} (htd:cx.tab t = some (.map kt (.list e) false)) (hx:evalO s.env x = some (.one (.mp id))) (hi:evalO s.env i = some (.one lf)) (hy:evalO s.env y = some u)
  (hl:look s.heap id = some (.mrows kt e l g)) (hq:keyOf kt lf = some q)
  (h:rowK s e u (fun id' row => bif outI g (assocIx kt.eqK l q 0) && !s.held id then k (((s.put id' .dead).put id (.mrows kt e (assocSet kt.eqK l q row) none)).set o.dst (.one .undef)) else none) = some r):o.wp P a w next Q:=by
 obtain ⟨id',row,hu',hl',hh',hpos,h7⟩:=rowK_spec h
 clear h
 subst hu'
 obtain ⟨hc,h⟩:=cond_none h7
 simp only [and_eq_true,Bool.not_eq_true'] at hc
 obtain ⟨hout,hh⟩:=hc
 have hne:id ≠ id':=fun e' => by subst e'; rw [hl] at hl'; cases hl'
 obtain ⟨_,ktt,et,hu,⟨d,hkd,hkk⟩,inf,z,hinf,hz,hwf,hco,hzz,hone⟩:=hcx.tab t _ htd
 obtain ⟨b,es,clock,h1,h2,h3,h4,h5,h6⟩:=hr.hp.ob id _ hl
 obtain ⟨b',hb',hxv⟩:=hr.eval hx
 rw [h1] at hb'; cases hb'
 have hqv:VC w Φ kt q [a.eval i]:=keyOf_VC hq (hr.eval hi)
 have hyv:LfR w Φ β s.heap (.sl id' none) (a.eval y):=hr.eval hy
 obtain ⟨hrv,hpt⟩:=own_row hr hl' hyv hpos
 have hr1:=hr.give (ob:=.arr e row) rfl hl' rfl hh'
 have hl1:look (s.put id' .dead).heap id = some (.mrows kt e l g):=by
  simp only [St.put,look_cons]; rw [if_neg (fun e' => hne e'.symm)]; exact hl
 have hlen:=h6.len
 simp only [List.length_map] at hlen
 have hnewc:∀ c,PtB (a.eval y) c → ¬ Φ c ∧ c < w.heap.size ∧ (∀ j ob p,look (s.put id' .dead).heap j = some ob → ob.owned = true → β j ≠ some (some (c,p))) ∧ (∀ j ob,look (s.put id' .dead).heap j = some ob → ¬ RowB w β j ob c) ∧ (own0 c ∨ w0.heap.size ≤ c):=by
  intro c hc
  obtain ⟨p,hp⟩:=hpt c hc
  refine ⟨?_,hr.hp.blt _ _ _ hp,fun j ob p' hj hown hb => ?_,norow hr hl' rfl hp (fun _ _ => rfl),hr.mine hh' hl' rfl hp⟩
  · rcases hr.hp.ob id' _ hl' with ⟨k1,_⟩ | ⟨c',p',k1,k2,_⟩
    · rw [hp] at k1; cases k1
    · rw [hp] at k1; cases k1; exact k2
  · simp only [St.put,look_cons] at hj
    split at hj
    · cases hj; cases hown
    · rename_i hne'; exact hne' (hr.hp.inj id' j _ ob c p p' hl' hj rfl hown hp hb)
 have hnb:∀ c,PtB (a.eval y) c → c ≠ b:=fun c hc e' => by
  subst e'
  exact (hnewc _ hc).2.2.1 id _ 0 hl1 rfl h1
 have hold:∀ j v c,g ≠ some j → (es.toList.map (·.val))[j]? = some v → PtB v c → RowB w β id (.mrows kt e l g) c:=fun j v c hj hv hc => ⟨_,g,⟨rfl,b,es,clock,h1,h3,rfl⟩,j,v,hv,hj,hc⟩
 have holdb:∀ c,RowB w β id (.mrows kt e l g) c → c ≠ b:=fun c hc e' => by
  subst e'
  exact (hr.hp.rin id _ _ hl hc).2.2 id _ 0 hl rfl h1
 have fin:∀ (es2:Array MapEntry) (clock2 jj:Nat),BornOk es2.toList clock2 → KeysR w Φ kt ((assocSet kt.eqK l q row).map (·.1)) es2.toList →
   (∀ m v r',(es2.toList.map (·.val))[m]? = some v → ((assocSet kt.eqK l q row).map (·.2))[m]? = some r' → (m = jj ∧ v = a.eval y ∧ r' = row) ∨ (m ≠ jj ∧ g ≠ some m ∧ (es.toList.map (·.val))[m]? = some v ∧ (l.map (·.2))[m]? = some r')) →
   (Instr.mapUpdate t (a.eval x) (a.eval i) (a.eval y)).run P w = .ok () { w with heap:=w.heap.setIfInBounds b (.map es2 clock2) } → o.wp P a w next Q:=by
  intro es2 clock2 jj f1 f2 f3 f4
  obtain ⟨q1,q2⟩:=MapKept.heap_set (o':=Obj.map es2 clock2) h3
  let w':World:={ w with heap:=w.heap.setIfInBounds b (.map es2 clock2) }
  have hsz:w'.heap.size = w.heap.size:=by simp [w']
  have hbs:blockSize w' b = blockSize w b:=by unfold blockSize; rw [show w'.heap[b]? = _ from q1,h3]
  have hot:∀ c,c ≠ b → w'.heap[c]? = w.heap[c]?:=q2
  have hmine:=hr.mine hh hl rfl h1
  have hsame:Same w0 own0 w':=⟨hr.same.os,hr.same.tape,hr.same.output,by rw [hsz]; exact hr.same.size,fun b' hb' hn => by
   rw [hot b' (fun e' => by subst e'; rcases hmine with g | g; exact hn g; omega)]; exact hr.same.block b' hb' hn⟩
  have hklen:(es2.toList.map (·.val)).length = ((assocSet kt.eqK l q row).map (·.2)).length:=by
   have:=(KeysR_get f2).1
   simpa using this
  have f3':∀ m v,(es2.toList.map (·.val))[m]? = some v → (m = jj ∧ v = a.eval y) ∨ (m ≠ jj ∧ g ≠ some m ∧ (es.toList.map (·.val))[m]? = some v):=by
   intro m v hm
   have hlt:=(List.getElem?_eq_some_iff.1 hm).1
   obtain ⟨r',hr'⟩:∃ r',((assocSet kt.eqK l q row).map (·.2))[m]? = some r':=⟨_,List.getElem?_eq_getElem (by rw [← hklen]; exact hlt)⟩
   rcases f3 m v r' hm hr' with ⟨e1,e2,_⟩ | ⟨e1,e2,e3,_⟩
   · exact .inl ⟨e1,e2⟩
   · exact .inr ⟨e1,e2,e3⟩
  have m0:Mono w Φ β (s.put id' .dead).heap w' Φ β ((s.put id' .dead).put id (.mrows kt e (assocSet kt.eqK l q row) none)).heap:=by
   refine ⟨fun c hc => hot c (fun e' => h2 (e' ▸ hc)),fun _ h => h,fun _ _ h => h,?_,?_⟩
   · intro j x hx r hr
     simp only [St.put,look_cons] at hr ⊢
     split at hr
     · cases hr
     · exact hr
   · intro j c o r hj hr
     by_cases e':c = b
     · rw [e']; exact hbs
     · unfold blockSize; rw [hot c e']
  obtain ⟨hr2,_⟩:=hr1.rput (o':=.mrows kt e (assocSet kt.eqK l q row) none) rfl rfl hl1 h1 rfl hsame hsz hot hbs h2
   (fun c hc => by
     obtain ⟨hs2,g2,⟨k1,b3,es3,cl3,k3,k4,k5⟩,m,v,k6,k7,k8⟩:=hc
     rw [h1] at k3; cases k3
     have k4':w'.heap[b]? = some (.map es3 cl3):=k4
     rw [show w'.heap[b]? = _ from q1] at k4'
     cases k4'
     subst k5
     rcases f3' m v k6 with ⟨_,e2⟩ | ⟨_,e2,e3⟩
     · subst e2; exact .inr (hnewc c k8)
     · exact .inl (hold m v c e2 e3 k8))
   ⟨b,es2,clock2,h1,h2,q1,KeysR_mono m0.frz m0.sub _ _ f2,f1,hklen,fun m v r' k1 k2 _ => by
    rcases f3 m v r' k1 k2 with ⟨_,e2,e3⟩ | ⟨_,e2,e3,e4⟩
    · subst e2; subst e3
      exact RowV_mono m0 (fun c hc => ⟨hot c (hnb c hc),fun h => h⟩) hrv
    · exact RowV_mono m0 (fun c hc => ⟨hot c (holdb c (hold m v c e2 e3 hc)),fun h => h⟩) (h6.row m v r' e3 e4 e2),
    fun m m' v v' c k1 k2 _ _ k3 k4 => by
     rcases f3' m v k1 with ⟨e1,e2⟩ | ⟨e1,e2,e3⟩ <;> rcases f3' m' v' k2 with ⟨e1',e2'⟩ | ⟨e1',e2',e3'⟩
     · rw [e1,e1']
     · subst e2
       obtain ⟨p,hp⟩:=hpt c k3
       exact absurd hp ((hr.hp.rin id _ c hl (hold m' v' c e2' e3' k4)).2.2 id' _ p hl' rfl)
     · subst e2'
       obtain ⟨p,hp⟩:=hpt c k4
       exact absurd hp ((hr.hp.rin id _ c hl (hold m v c e2 e3 k3)).2.2 id' _ p hl' rfl)
     · exact h6.dis m m' v v' c e3 e3' e2 e2' k3 k4⟩
  exact upon_skip (hex _ f4) (hk _ _ _ _ _ (hr2.set (sv:=.one .undef) (v:=undef) trivial hN) h)
 have hck:∀ n,(Instr.checkKey false (n + 1) ktt (a.eval i)).run P w = .ok () w:=fun n => MapKept.run_checkKey hkd (keyD_isKey hkk hqv) false n
 have hgl:=KeysR_get h4
 rcases find_keys hkk hqv l es.toList 0 h4 with ⟨g1,g2,g3,g4⟩ | ⟨j,en,row0,g1,g2,g3,g4,g5,g6,g7⟩
 · have hg0:g = none:=by
    rw [g1] at hout
    cases g with
    | none => rfl
    | some m => cases hout
   refine fin (es.push { key:=a.eval i,val:=a.eval y,born:=clock }) (clock + 1) l.length ?_ ?_ ?_ ?_
   · rw [Array.toList_push]
     refine ⟨fun e he => ?_,List.pairwise_append.2 ⟨h5.2,by simp,fun x hx y hy => ?_⟩⟩
     · rcases List.mem_append.1 he with g | g
       · have:=h5.1 e g; omega
       · simp at g; subst g; exact Nat.lt_succ_self _
     · simp at hy; subst hy; have:=h5.1 x hx; simp only; omega
   · rw [Array.toList_push,g4,List.map_append]
     refine KeysR_of (by simp [hlen]) (fun m x en hx hen => ?_)
     by_cases hm:m < l.length
     · rw [List.getElem?_append_left (by simpa using hm)] at hx
       rw [List.getElem?_append_left (by simp [hlen]; exact hm)] at hen
       exact hgl.2 m x en hx hen
     · have hmm:m = l.length:=by
        have:=(List.getElem?_eq_some_iff.1 hx).1
        simp at this; omega
       subst hmm
       rw [List.getElem?_append_right (by simp)] at hx
       rw [List.getElem?_append_right (by omega),hlen] at hen
       simp at hx hen
       subst hx; subst hen
       exact hqv
   · rw [Array.toList_push,g4,List.map_append,List.map_append]
     intro m v r' hm hr'
     by_cases hml:m < l.length
     · rw [List.getElem?_append_left (by simpa [hlen] using hml)] at hm
       rw [List.getElem?_append_left (by simpa using hml)] at hr'
       exact .inr ⟨by omega,by rw [hg0]; simp,hm,hr'⟩
     · have hmm:m = l.length:=by
        have:=(List.getElem?_eq_some_iff.1 hr').1
        simp at this; omega
       subst hmm
       rw [List.getElem?_append_right (by simp)] at hr'
       rw [List.getElem?_append_right (by rw [List.length_map]; omega)] at hm
       simp [hlen] at hm hr'
       exact .inl ⟨rfl,hm.symm,hr'.symm⟩
   · rw [hxv]
     unfold Instr.mapUpdate
     simp only [Sem.run_bind,run_underlying hu,Result.andThen_ok,MapKept.run_getObj_map h3,hck,MapKept.run_findKey hkd g3,MapKept.run_setObj_map _ h3]
 · rw [Nat.zero_add] at g1 g6
   have hg0:∀ m,m ≠ j → g ≠ some m:=by
    intro m hm e'
    rw [g1,e'] at hout
    exact hm (Nat.eq_of_beq_eq_true hout)
   have hsb:Instr.sameBits 10000 (a.eval i) (a.eval i) = true:=sameBits_key (keyD_isKey hkk hqv)
   have hje:es[j]? = some en:=by simpa using g4
   have hjl:j < l.length:=by
    have:=(List.getElem?_eq_some_iff.1 g4).1
    omega
   have hbm:(es.modify j fun e => { e with key:=a.eval i,val:=a.eval y }).toList.map (·.born) = es.toList.map (·.born):=by
    apply List.ext_getElem?
    intro m
    simp only [List.getElem?_map,Array.getElem?_toList,Array.getElem?_modify]
    by_cases hij:j = m
    · subst hij
      cases es[j]? <;> simp
    · simp [hij]
   refine fin (es.modify j fun e => { e with key:=a.eval i,val:=a.eval y }) clock j ?_ ?_ ?_ ?_
   · have hp2:(es.toList.map (·.born)).Pairwise (· ≠ ·):=List.pairwise_map.2 h5.2
     refine ⟨fun x hx => ?_,?_⟩
     · have:x.born ∈ (es.modify j fun e => { e with key:=a.eval i,val:=a.eval y }).toList.map (·.born):=List.mem_map.2 ⟨x,hx,rfl⟩
       rw [hbm] at this
       obtain ⟨x',hx',e'⟩:=List.mem_map.1 this
       rw [← e']; exact h5.1 x' hx'
     · rw [← hbm] at hp2
       exact List.pairwise_map.1 hp2
   · rw [g7]
     refine KeysR_of (by simpa using hlen) (fun m x e' hx he => ?_)
     rw [Array.getElem?_toList,Array.getElem?_modify] at he
     rw [List.getElem?_map,List.getElem?_set] at hx
     by_cases hjm:j = m
     · subst hjm
       rw [if_pos rfl,if_pos hjl] at hx
       rw [if_pos rfl,hje] at he
       simp at hx he
       subst hx; subst he
       exact hqv
     · rw [if_neg hjm] at hx he
       exact hgl.2 m x e' (by rw [List.getElem?_map]; exact hx) (by rw [Array.getElem?_toList]; exact he)
   · rw [g7]
     intro m v r' hm hr'
     rw [List.getElem?_map,Array.getElem?_toList,Array.getElem?_modify] at hm
     rw [List.getElem?_map,List.getElem?_set] at hr'
     by_cases hjm:j = m
     · subst hjm
       rw [if_pos rfl,if_pos hjl] at hr'
       rw [if_pos rfl,hje] at hm
       simp at hr' hm
       exact .inl ⟨rfl,hm.symm,hr'.symm⟩
     · rw [if_neg hjm] at hm hr'
       exact .inr ⟨fun e' => hjm e'.symm,hg0 m (fun e' => hjm e'.symm),by rw [List.getElem?_map,Array.getElem?_toList]; exact hm,by rw [List.getElem?_map]; exact hr'⟩
   · rw [hxv]
     unfold Instr.mapUpdate
     have hkts:(Instr.keyThatStays (((es[j]?).map (·.key)).getD (a.eval i)) (a.eval i)).run P w = .ok (a.eval i) w:=by
      rw [hje]
      simp only [Option.map_some,Option.getD_some,g5]
      unfold Instr.keyThatStays
      rw [if_pos hsb]; simp
     simp only [Sem.run_bind,run_underlying hu,Result.andThen_ok,MapKept.run_getObj_map h3,hck,MapKept.run_findKey hkd g6,hkts,MapKept.run_setObj_map _ h3]
theorem step_mapUpdate (hcx:CxOk P cx) (hr:Rel w0 Φ0 own0 N w Φ β s a) (hN:∀ d,o.dst = some d → N.ok d) (hk:∀ s' a' w' Φ' β',Rel w0 Φ0 own0 N w' Φ' β' s' a' → k s' = some r → next a' w')
  {t:TypeId} {x i y:Operand} (ho:o.op = .mapUpdate t x i y ∨ o.op = .insert t x i y) (h:stepK cx o s k = some r):o.wp P a w next Q:=by
 have h':(match cx.tab t,evalO s.env x,evalO s.env i,evalO s.env y with
  | some td,some v,some j,some u => updateS td s v j u fun s' => k (s'.set o.dst (.one .undef))
  | _,_,_,_ => none) = some r:=by
  rcases ho with ho | ho <;> (simp only [stepK,ho] at h; exact h)
 have hex:∀ w',(Instr.mapUpdate t (a.eval x) (a.eval i) (a.eval y)).run P w = .ok () w' → (execOp a.eval o).run P w = .ok .skip w':=by
  intro w' hh
  rcases ho with ho | ho <;> simp [execOp,ho,hh]
 clear h
 split at h'
 case h_2 => cases h'
 rename_i td v j u htd hx hi hy
 unfold updateS at h'
 split at h'
 · rename_i id
   split at h'
   · rename_i kt e l g hl
     split at h'
     · rename_i kt' vt agg lf
       split at h'
       case isFalse => cases h'
       rename_i hc
       obtain ⟨rfl,rfl,rfl⟩:=hc
       split at h'
       · rename_i q hq
         exact step_putM hcx hr hN hk hex htd hx hi hy hl hq h'
       · cases h'
     · cases h'
   · exact step_mapUpdateK hcx hr hN hk ho htd hx hi hy h'
 · exact step_mapUpdateK hcx hr hN hk ho htd hx hi hy h'
theorem pstep_makeIface (hcx:CxOk P cx) (hr:Rel w0 Φ0 own0 N w Φ β s a) {t:TypeId} {x:Operand} (ho:o.op = .makeInterface t x) (h:stepK cx o s k = some r):PStep P R (fun _ => True) w Φ β s a o k r:=by
 simp only [stepK,ho] at h
 split at h
 · rename_i j z j' n htd hx
   have hv:=hr.eval hx
   obtain ⟨_,d,hd,_,hi,_⟩:=hcx.tab t _ htd
   have hd':=hi _ _ rfl
   subst hd'
   refine pstep h (v:=.iface t (a.eval x)) (fun w _ => by simp [execOp,ho,Instr.makeInterface,run_underlying hd]) ?_
   have hv':a.eval x = .int j' n:=hv
   rw [hv']; rfl
 · rename_i id off htd hx
   obtain ⟨b,hb,hv⟩:=hr.eval hx
   obtain ⟨_,d,hd,_,_,_,_,hp⟩:=hcx.tab t _ htd
   refine pstep h (v:=.iface t (a.eval x)) (fun w _ => ?_) ⟨b,hb,by rw [hv]⟩
   have:=hp rfl
   simp only [execOp,ho,Instr.makeInterface,Sem.run_bind,run_underlying hd,Result.andThen_ok]
   cases d <;> first | rfl | exact absurd rfl (this _)
 · cases h
theorem pstep_assert (hcx:CxOk P cx) (hr:Rel w0 Φ0 own0 N w Φ β s a) {t t2:TypeId} {x:Operand} (ho:o.op = .typeAssert x t2 t false) (h:stepK cx o s k = some r):PStep P R (fun _ => True) w Φ β s a o k r:=by
 simp only [stepK,ho] at h
 split at h
 · rename_i j z t' j' n htd hx
   have hv:a.eval x = .iface t' (.int j' n):=hr.eval hx
   obtain ⟨_,d,hd,_,hi,_⟩:=hcx.tab t _ htd
   have hd':=hi _ _ rfl
   subst hd'
   obtain ⟨hc,h2⟩:=cond_none h
   have ht:=Nat.eq_of_beq_eq_true hc
   subst ht
   exact pstep h2 (v:=.int j' n) (fun w _ => by simp [execOp,ho,Instr.typeAssert,run_underlying hd,hv]) rfl
 · cases h
end
section
variable {w w':World} {Φ Φ':Nat → Prop} {β γ:Loc} {hp hp':List (Nat × SObj)} {ρ:Rho}
theorem toD_from:∀ {ts:List CT} {ds:List Dyn} {d:(prods ts).denote},toD ts ds = some d → fromD ts d = ds
 | [],[],d,h => rfl
 | [],_ :: _,d,h => by simp [toD] at h
 | [a],[],d,h => by simp [toD] at h
 | [a],[x],d,h => by
   obtain ⟨t,x⟩:=x
   simp only [toD] at h
   split at h
   · rename_i e; subst e; cases h; rfl
   · cases h
 | [a],_ :: _ :: _,d,h => by simp [toD] at h
 | a :: b :: r,[],d,h => by simp [toD] at h
 | a :: b :: r,x :: ds,d,h => by
   obtain ⟨t,x⟩:=x
   simp only [toD] at h
   split at h
   case isFalse => cases h
   rename_i e
   subst e
   split at h
   case h_2 => cases h
   rename_i y hy
   cases h
   show _ :: fromD (b :: r) y = _
   rw [toD_from hy]
theorem ext1_VC (hob:∀ id e l,look hp id = some (.frz e l) → ObR w Φ β hp id (.frz e l)) {t:CT} {l:Leaf} {v:Value} {x:t.denote} (hv:LfR w Φ β hp l v) (h:ext1 hp t l = some x):VC w Φ t x [v]:=by
 unfold ext1 at h
 split at h
 · rename_i k k' y
   split at h
   · rename_i hk; cases h; subst hk; rw [show v = _ from hv]; rfl
   · cases h
 · cases h; rw [show v = _ from hv]; rfl
 · cases h; obtain ⟨sx,e1,e2⟩:=hv; exact ⟨sx,by rw [e1],e2⟩
 · rename_i e e' l'
   split at h
   · rename_i he; subst he; cases h; exact hv
   · cases h
 · rename_i e e' l'
   split at h
   · rename_i he; subst he; cases h; exact hv.1
   · cases h
 · cases h; exact ⟨none,0,by rw [show v = _ from hv]; rfl,Nat.le_refl _,.inl rfl⟩
 · rename_i e id rr
   obtain ⟨loc,hloc,_,hs⟩:=hv
   split at h
   · rename_i e' l' hl
     split at h
     case isFalse => cases h
     rename_i he; subst he; cases h
     refine row_VC (hs _ _ (by rw [hl]; rfl)) fun b o hb => ?_
     rcases hob id _ _ hl with ⟨h1,_⟩ | ⟨b',o',h1,h2,h4⟩
     · rw [hloc,hb] at h1; cases h1
     · rw [hloc,hb] at h1; cases h1; exact ⟨h2,h4⟩
   · cases h
 · obtain ⟨hd,_⟩:=cond_none h
   exact ⟨v,rfl,LfR_oneCell hv hd⟩
 · cases h
theorem extP_VC (hob:∀ id e l,look hp id = some (.frz e l) → ObR w Φ β hp id (.frz e l)):∀ {t:CT} {ls:List Leaf} {vs:List Value} {x:t.denote},LfRs w Φ β hp ls vs → extP hp t ls = some x → VC w Φ t x vs
 | .prod p q,[],vs,x,hv,h => by simp [extP] at h
 | .prod p q,l :: ls,vs,x,⟨v,vs',e,h1,h2⟩,h => by
   subst e
   simp only [extP] at h
   split at h
   case h_2 => cases h
   rename_i y hy
   split at h
   case h_2 => cases h
   rename_i z hz
   cases h
   exact ⟨v,vs',rfl,ext1_VC hob h1 hy,extP_VC hob h2 hz⟩
 | .unit,ls,vs,x,hv,h => by
   cases ls with
   | nil => exact hv
   | cons l ls => simp [extP] at h
 | .int k,ls,vs,x,hv,h => by
   match ls,hv with
   | [],_ => simp [extP] at h
   | [l],⟨v,vs',e,h1,h2⟩ => cases h2; subst e; exact ext1_VC hob h1 h
   | _ :: _ :: _,_ => simp [extP] at h
 | .bool,ls,vs,x,hv,h => by
   match ls,hv with
   | [],_ => simp [extP] at h
   | [l],⟨v,vs',e,h1,h2⟩ => cases h2; subst e; exact ext1_VC hob h1 h
   | _ :: _ :: _,_ => simp [extP] at h
 | .str,ls,vs,x,hv,h => by
   match ls,hv with
   | [],_ => simp [extP] at h
   | [l],⟨v,vs',e,h1,h2⟩ => cases h2; subst e; exact ext1_VC hob h1 h
   | _ :: _ :: _,_ => simp [extP] at h
 | .list e,ls,vs,x,hv,h => by
   match ls,hv with
   | [],_ => simp [extP] at h
   | [l],⟨v,vs',e,h1,h2⟩ => cases h2; subst e; exact ext1_VC hob h1 h
   | _ :: _ :: _,_ => simp [extP] at h
 | .sum _ _,ls,vs,x,hv,h => by simp [extP] at h
 | .any p,ls,vs,x,hv,h => by
   match ls,hv with
   | [],_ => simp [extP] at h
   | [l],⟨v,vs',e,h1,h2⟩ => cases h2; subst e; exact ext1_VC hob h1 h
   | _ :: _ :: _,_ => simp [extP] at h
theorem extP_len:∀ {t:CT} {ls:List Leaf} {x:t.denote},extP hp t ls = some x → ls.length = t.size ∧ (unpackL t x).length = t.size
 | .prod p q,[],x,h => by simp [extP] at h
 | .prod p q,l :: ls,x,h => by
   simp only [extP] at h
   split at h
   case h_2 => cases h
   split at h
   case h_2 => cases h
   rename_i z hz
   cases h
   obtain ⟨h1,h2⟩:=extP_len hz
   simp [unpackL,CT.size,h1,h2]; omega
 | .unit,ls,x,h => by
   cases ls with
   | nil => simp [unpackL,CT.size]
   | cons l ls => simp [extP] at h
 | .int k,ls,x,h => by
   match ls with
   | [] => simp [extP] at h
   | [l] => simp [unpackL,CT.size]
   | _ :: _ :: _ => simp [extP] at h
 | .bool,ls,x,h => by
   match ls with
   | [] => simp [extP] at h
   | [l] => simp [unpackL,CT.size]
   | _ :: _ :: _ => simp [extP] at h
 | .str,ls,x,h => by
   match ls with
   | [] => simp [extP] at h
   | [l] => simp [unpackL,CT.size]
   | _ :: _ :: _ => simp [extP] at h
 | .list e,ls,x,h => by
   match ls with
   | [] => simp [extP] at h
   | [l] => simp [unpackL,CT.size]
   | _ :: _ :: _ => simp [extP] at h
 | .sum _ _,ls,x,h => by simp [extP] at h
 | .any p,ls,x,h => by
   match ls with
   | [] => simp [extP] at h
   | [l] => simp [unpackL,CT.size]
   | _ :: _ :: _ => simp [extP] at h
theorem eqId_spec {k id:Nat} (h:eqId ρ k id = true):ρ.at k = some id:=by
 unfold eqId at h
 split at h
 · rename_i j hj; rw [hj,Nat.eq_of_beq_eq_true h]
 · cases h
structure Corr (ρ:Rho) (β γ:Loc) (hp hp':List (Nat × SObj)):Prop where
 loc:∀ k id,ρ.at k = some id → γ k = β id
 row:∀ k id,ρ.at k = some id → ∀ r,rowOf (look hp' k) = some r → rowOf (look hp id) = some r
theorem eqIds_IdsR (c:Corr ρ β γ hp hp'):∀ {xs ys:List (Option Nat)} {vs:List Value},eqIds ρ xs ys = true → IdsR β ys vs → IdsR γ xs vs
 | [],[],_,_,h => h
 | [],_ :: _,_,h,_ => by simp [eqIds] at h
 | none :: _,[],_,h,_ => by simp [eqIds] at h
 | some _ :: _,[],_,h,_ => by simp [eqIds] at h
 | none :: r,none :: s,vs,h,⟨v,vs',e,h1,h2⟩ => ⟨v,vs',e,h1,eqIds_IdsR c (by simpa [eqIds] using h) h2⟩
 | some k :: r,some id :: s,vs,h,⟨v,vs',e,⟨b,h1,h3⟩,h2⟩ => by
   simp only [eqIds,and_eq_true] at h
   exact ⟨v,vs',e,⟨b,by rw [c.loc k id (eqId_spec h.1)]; exact h1,h3⟩,eqIds_IdsR c h.2 h2⟩
 | none :: _,some _ :: _,_,h,_ => by simp [eqIds] at h
 | some _ :: _,none :: _,_,h,_ => by simp [eqIds] at h
theorem extL_sound (c:Corr ρ β γ hp hp') {lt:LT} {l:Leaf} {u:Value} {ds:List Dyn} (hv:LfR w Φ β hp l u) (h:extL ρ lt l = some ds) (rest:List Dyn) :
  ∃ l',instL lt (ds ++ rest) = ([l'],rest) ∧ LfR w Φ γ hp' l' u:=by
 unfold extL at h
 split at h
 · rename_i k off id off'
   obtain ⟨hb,h⟩:=cond_none h
   cases h
   simp only [and_eq_true] at hb
   have e2:=Nat.eq_of_beq_eq_true hb.2
   subst e2
   obtain ⟨b,h1,h2⟩:=hv
   exact ⟨_,rfl,b,by rw [c.loc k id (eqId_spec hb.1)]; exact h1,h2⟩
 · rename_i k off id i off'
   obtain ⟨hb,h⟩:=cond_none h
   cases h
   simp only [and_eq_true] at hb
   have e2:=Nat.eq_of_beq_eq_true hb.2
   subst e2
   obtain ⟨loc,h1,h2,h3⟩:=hv
   refine ⟨.eptr k (i:Int).toNat off,rfl,loc,by rw [c.loc k id (eqId_spec hb.1)]; exact h1,h2,fun sz n hr => ?_⟩
   rw [Int.toNat_natCast]
   exact h3 sz n (c.row k id (eqId_spec hb.1) _ hr)
 · rename_i k id
   obtain ⟨hb,h⟩:=cond_none h
   cases h
   obtain ⟨loc,h1,h2,h3⟩:=hv
   exact ⟨_,rfl,loc,by rw [c.loc k id (eqId_spec hb)]; exact h1,h2,fun sz n hr => h3 sz n (c.row k id (eqId_spec hb) _ hr)⟩
 · rename_i k off n id r
   obtain ⟨hb,h⟩:=cond_none h
   cases h
   simp only [and_eq_true] at hb
   have e1:=Nat.eq_of_beq_eq_true hb.2.1
   have e2:=Nat.eq_of_beq_eq_true hb.2.2
   obtain ⟨r1,r2⟩:=r
   subst e1; subst e2
   obtain ⟨loc,h1,h2,h3⟩:=hv
   exact ⟨_,rfl,loc,by rw [c.loc k id (eqId_spec hb.1)]; exact h1,h2,fun sz n hr => h3 sz n (c.row k id (eqId_spec hb.1) _ hr)⟩
 · cases h; exact ⟨_,rfl,hv⟩
 · rename_i f a b f' a' b'
   obtain ⟨hb,h⟩:=cond_none h
   cases h
   simp only [and_eq_true] at hb
   have e2:=Nat.eq_of_beq_eq_true hb.1
   subst e2
   obtain ⟨us,vs,h1,h2,h3⟩:=hv
   exact ⟨_,rfl,us,vs,h1,eqIds_IdsR c hb.2.1 h2,eqIds_IdsR c hb.2.2 h3⟩
 · rename_i t k off t' id off'
   obtain ⟨hb,h⟩:=cond_none h
   cases h
   simp only [and_eq_true] at hb
   have e1:=Nat.eq_of_beq_eq_true hb.1
   have e2:=Nat.eq_of_beq_eq_true hb.2.2
   subst e1; subst e2
   obtain ⟨b,h1,h2⟩:=hv
   exact ⟨_,rfl,b,by rw [c.loc k id (eqId_spec hb.2.1)]; exact h1,h2⟩
 · rename_i t j t' j' x
   split at h
   case isFalse => cases h
   obtain ⟨hb,h⟩:=cond_none h
   cases h
   have e1:=Nat.eq_of_beq_eq_true hb
   subst e1
   exact ⟨_,rfl,hv⟩
 · rename_i e e' l
   split at h
   case isFalse => cases h
   cases h
   exact ⟨_,rfl,hv⟩
 · rename_i k id
   obtain ⟨hb,h⟩:=cond_none h
   cases h
   obtain ⟨b,h1,h2⟩:=hv
   exact ⟨_,rfl,b,by rw [c.loc k id (eqId_spec hb)]; exact h1,h2⟩
 · cases h; exact ⟨_,rfl,hv⟩
 · cases h; exact ⟨_,rfl,hv⟩
 · cases h; exact ⟨_,rfl,hv⟩
 · cases h; exact ⟨_,rfl,hv⟩
 · cases h; exact ⟨_,rfl,trivial⟩
 · cases h
theorem extL_one {lt:LT} {l:Leaf} {ds:List Dyn} (h:extL ρ lt l = some ds) (rest:List Dyn):∃ l',instL lt (ds ++ rest) = ([l'],rest):=by
 unfold extL at h
 split at h
 all_goals first
  | (cases h; done)
  | (cases h; exact ⟨_,rfl⟩)
  | (split at h
     · obtain ⟨hb,h⟩:=cond_none h; cases h; exact ⟨_,rfl⟩
     · cases h)
  | (split at h
     · cases h; exact ⟨_,rfl⟩
     · cases h)
  | (obtain ⟨hb,h⟩:=cond_none h; cases h; exact ⟨_,rfl⟩)
theorem extL_fst {lt:LT} {l:Leaf} {ds:List Dyn} (h:extL ρ lt l = some ds) (rest:List Dyn):(instL lt (ds ++ rest)).1 = (instL lt ds).1:=by
 unfold extL at h
 split at h
 all_goals first
  | (cases h; done)
  | (cases h; rfl)
  | (split at h
     · obtain ⟨hb,h⟩:=cond_none h; cases h; rfl
     · cases h)
  | (split at h
     · cases h; rfl
     · cases h)
  | (obtain ⟨hb,h⟩:=cond_none h; cases h; rfl)
theorem LfRs_app:∀ {l m:List Leaf} {u v:List Value},LfRs w Φ β hp l u → LfRs w Φ β hp m v → LfRs w Φ β hp (l ++ m) (u ++ v)
 | [],m,u,v,h,k => by cases h; exact k
 | x :: l,m,u,v,⟨a,us,e,h1,h2⟩,k => by subst e; exact ⟨a,us ++ v,rfl,h1,LfRs_app h2 k⟩
theorem plain_eq {l:LT} {t:CT} (h:l.plain = some t):l = .pl t:=by
 cases l <;> simp [LT.plain] at h
 subst h; rfl
theorem extLs_form:∀ {lts:List LT} {ls:List Leaf} {ds:List Dyn},extLs ρ hp lts ls = some ds → ∀ rest,(instLs lts (ds ++ rest)).2 = rest ∧ (instLs lts (ds ++ rest)).1 = (instLs lts ds).1 ∧ (instLs lts ds).1.length = ls.length
 | [],[],ds,h,rest => by simp [extLs] at h; subst h; simp [instLs]
 | [],_ :: _,ds,h,rest => by simp [extLs] at h
 | lt :: r,ls,ds,h,rest => by
   simp only [extLs] at h
   split at h
   · rename_i t ht
     have:=plain_eq ht
     subst this
     split at h
     case h_2 => cases h
     rename_i x ds' hx hds
     cases h
     obtain ⟨h1,h2,h3⟩:=extLs_form hds rest
     obtain ⟨h4,h5⟩:=extP_len hx
     refine ⟨by simp [instLs,instL,h1],by simp [instLs,instL,h2],?_⟩
     simp only [instLs,instL,List.length_append,h3,h5,List.length_drop]
     simp only [List.length_take] at h4
     omega
   · split at h
     · cases h
     · rename_i v vs
       split at h
       case h_2 => cases h
       rename_i d ds' hd hds
       cases h
       obtain ⟨l',e1⟩:=extL_one hd (ds' ++ rest)
       obtain ⟨l2,e2⟩:=extL_one hd ds'
       obtain ⟨h1,h2,h3⟩:=extLs_form hds rest
       have e3:l' = l2:=by
        have a1:=extL_fst hd (ds' ++ rest)
        have a2:=extL_fst hd ds'
        rw [e1] at a1; rw [e2] at a2
        simpa using a1.trans a2.symm
       subst e3
       simp only [instLs,List.append_assoc,e1,e2,h1,h2,List.length_append,List.length_cons,List.length_nil,h3]
       refine ⟨trivial,trivial,by omega⟩
theorem extLs_sound (hob:∀ id e l,look hp id = some (.frz e l) → ObR w Φ β hp id (.frz e l)) (c:Corr ρ β γ hp hp'):∀ {lts:List LT} {ls:List Leaf} {us:List Value} {ds:List Dyn},LfRs w Φ β hp ls us → extLs ρ hp lts ls = some ds →
  LfRs w Φ γ hp' (instLs lts ds).1 us
 | [],[],us,ds,hv,h => by simp [extLs] at h; subst h; exact hv
 | [],_ :: _,us,ds,hv,h => by simp [extLs] at h
 | lt :: r,ls,us,ds,hv,h => by
   simp only [extLs] at h
   split at h
   · rename_i t ht
     have:=plain_eq ht
     subst this
     split at h
     case h_2 => cases h
     rename_i x ds' hx hds
     cases h
     have h1:=extP_VC hob (LfRs_take t.size hv) hx
     have h2:=extLs_sound hob c (LfRs_drop t.size hv) hds
     have:=LfRs_app (unpackL_LfRs (β:=γ) (hp:=hp') t x _ h1) h2
     simpa [instLs,instL] using this
   · split at h
     · cases h
     · rename_i v vs
       split at h
       case h_2 => cases h
       rename_i d ds' hd hds
       cases h
       obtain ⟨u,us',e,g1,g2⟩:=hv
       subst e
       obtain ⟨l',e1,e2⟩:=extL_sound c g1 hd ds'
       simp only [instLs,e1,List.cons_append,List.nil_append]
       exact ⟨u,us',rfl,e2,extLs_sound hob c g2 hds⟩
def CorO (ρ:Rho) (hp:List (Nat × SObj)) (ob o':SObj):Prop :=
 (∃ cs lts d,ob = .box cs ∧ extLs ρ hp lts cs = some d ∧ o' = .box (instLs lts d).1) ∨ (∃ cs lts d,ob = .cells cs ∧ extLs ρ hp lts cs = some d ∧ o' = .cells (instLs lts d).1) ∨
   (∃ e l,ob = .arr e l ∧ o' = .arr e l) ∨ (∃ k v a l,ob = .map k v a l ∧ o' = .map k v a l) ∨ (ob.isRows = true ∧ o' = ob) ∨
   ∃ e pre cs post lts d,ob = .zip e pre cs post ∧ extLs ρ hp lts cs = some d ∧ o' = .zip e pre (instLs lts d).1 post
theorem CorO.row {ob o':SObj} (h:CorO ρ hp ob o'):rowOf (some o') = rowOf (some ob):=by
 rcases h with ⟨cs,lts,d,rfl,h2,rfl⟩ | ⟨cs,lts,d,rfl,h2,rfl⟩ | ⟨e,l,rfl,rfl⟩ | ⟨k,v,a,l,rfl,rfl⟩ | ⟨_,rfl⟩ | ⟨e,pre,cs,post,lts,d,rfl,_,rfl⟩
 · rfl
 · simp [rowOf,(extLs_form h2 []).2.2]
 · rfl
 · rfl
 · rfl
 · rfl
theorem CorO.owned {ob o':SObj} (h:CorO ρ hp ob o'):o'.owned = true ∧ ob.owned = true:=by
 rcases h with ⟨cs,lts,d,rfl,h2,rfl⟩ | ⟨cs,lts,d,rfl,h2,rfl⟩ | ⟨e,l,rfl,rfl⟩ | ⟨k,v,a,l,rfl,rfl⟩ | ⟨h1,rfl⟩ | ⟨e,pre,cs,post,lts,d,rfl,_,rfl⟩
 · exact ⟨rfl,rfl⟩
 · exact ⟨rfl,rfl⟩
 · exact ⟨rfl,rfl⟩
 · exact ⟨rfl,rfl⟩
 · cases o' <;> first | exact ⟨rfl,rfl⟩ | cases h1
 · exact ⟨rfl,rfl⟩
theorem CorO.rows {ob o':SObj} (h:CorO ρ hp ob o') (hr:o'.isRows = true):o' = ob:=by
 rcases h with ⟨cs,lts,d,rfl,h2,rfl⟩ | ⟨cs,lts,d,rfl,h2,rfl⟩ | ⟨e,l,rfl,rfl⟩ | ⟨k,v,a,l,rfl,rfl⟩ | ⟨h1,rfl⟩ | ⟨e,pre,cs,post,lts,d,rfl,_,rfl⟩ <;> first | rfl | cases hr
theorem extOb_form {k:Nat} {o:ObT} {ds:List Dyn} (h:extOb ρ hp k o = some ds) (rest:List Dyn):(instOb o (ds ++ rest)).2 = rest ∧ (instOb o (ds ++ rest)).1 = (instOb o ds).1 ∧
  (o = .gone ∧ (instOb o ds).1 = .dead ∨ ∃ id ob,ρ.at k = some id ∧ look hp id = some ob ∧ CorO ρ hp ob (instOb o ds).1):=by
 unfold extOb at h
 split at h
 · cases h; exact ⟨rfl,rfl,.inl ⟨rfl,rfl⟩⟩
 · split at h
   case h_2 => cases h
   rename_i id hid
   split at h
   · rename_i ls cs hl hne
     obtain ⟨h1,h2,h3⟩:=extLs_form h rest
     exact ⟨h1,by simp only [instOb,h2],.inr ⟨id,_,hid,hl,.inl ⟨cs,ls,ds,rfl,h,rfl⟩⟩⟩
   · rename_i ls cs hl hne
     obtain ⟨h1,h2,h3⟩:=extLs_form h rest
     exact ⟨h1,by simp only [instOb,h2],.inr ⟨id,_,hid,hl,.inr (.inl ⟨cs,ls,ds,rfl,h,rfl⟩)⟩⟩
   · rename_i e e' l hl hne
     split at h
     case isFalse => cases h
     cases h
     exact ⟨rfl,rfl,.inr ⟨id,_,hid,hl,.inr (.inr (.inl ⟨e',l,rfl,rfl⟩))⟩⟩
   · rename_i k v a k' v' a' l hl hne
     split at h
     case isFalse => cases h
     rename_i hc
     cases h
     obtain ⟨rfl,rfl,rfl⟩:=hc
     exact ⟨rfl,rfl,.inr ⟨id,_,hid,hl,.inr (.inr (.inr (.inl ⟨_,_,_,l,rfl,rfl⟩)))⟩⟩
   · rename_i e e' l hl hne
     split at h
     case isFalse => cases h
     rename_i hc
     subst hc
     cases h
     exact ⟨rfl,rfl,.inr ⟨id,_,hid,hl,.inr (.inr (.inr (.inr (.inl ⟨rfl,rfl⟩))))⟩⟩
   · rename_i k e k' e' l hl hne
     split at h
     case isFalse => cases h
     rename_i hc
     obtain ⟨rfl,rfl⟩:=hc
     cases h
     exact ⟨rfl,rfl,.inr ⟨id,_,hid,hl,.inr (.inr (.inr (.inr (.inl ⟨rfl,rfl⟩))))⟩⟩
   · rename_i e ls e' pre cs post hl hne
     split at h
     case isFalse => cases h
     split at h
     case h_2 => cases h
     rename_i d hd
     cases h
     have up:∀ rest,instOb (.zip e ls) ((⟨.list e',pre⟩ :: (d ++ [⟨.list e',post⟩])) ++ rest) = (.zip e' pre (instLs ls d).1 post,rest):=by
      intro rest
      obtain ⟨h1,h2,h3⟩:=extLs_form hd (⟨.list e',post⟩ :: rest)
      have hp:instLs ls (d ++ (⟨.list e',post⟩ :: rest)) = ((instLs ls d).1,⟨.list e',post⟩ :: rest):=Prod.ext h2 h1
      show zipUp e' pre (instLs ls ((d ++ [⟨.list e',post⟩]) ++ rest)) = _
      rw [List.append_assoc]
      show zipUp e' pre (instLs ls (d ++ (⟨.list e',post⟩ :: rest))) = _
      rw [hp]
      simp only [zipUp,dif_pos]
     have up0:=up []
     rw [List.append_nil] at up0
     exact ⟨by rw [up],by rw [up,up0],.inr ⟨id,_,hid,hl,.inr (.inr (.inr (.inr (.inr ⟨e',pre,cs,post,ls,d,rfl,hd,by rw [up0]⟩))))⟩⟩
   · cases h
theorem extObs_form:∀ {objs:List (Bool × ObT)} {k:Nat} {ds:List Dyn},extObs ρ hp k objs = some ds → ∀ rest,(instObs k objs (ds ++ rest)).2 = rest ∧ (instObs k objs (ds ++ rest)).1 = (instObs k objs ds).1 ∧
  ∀ j o',look (instObs k objs ds).1 j = some o' → k ≤ j ∧ j < k + objs.length ∧ ∃ bo,objs[j - k]? = some bo ∧ (bo.2 = .gone ∧ o' = .dead ∨ ∃ id ob,ρ.at j = some id ∧ look hp id = some ob ∧ CorO ρ hp ob o')
 | [],k,ds,h,rest => by simp [extObs] at h; subst h; simp [instObs,look]
 | o :: r,k,ds,h,rest => by
   simp only [extObs] at h
   split at h
   case h_2 => cases h
   rename_i d ds' hd hds
   cases h
   obtain ⟨h1,h2,h3⟩:=extOb_form hd (ds' ++ rest)
   obtain ⟨g1,g2,g3⟩:=extOb_form hd ds'
   obtain ⟨k1,k2,k3⟩:=extObs_form hds rest
   refine ⟨by simp [instObs,h1,k1],by simp [instObs,h1,h2,g1,g2,k2],fun j o' hj => ?_⟩
   simp only [instObs,g1,g2,look_cons] at hj
   split at hj
   · rename_i e
     subst e
     cases hj
     exact ⟨Nat.le_refl _,by simp,o,by simp,h3⟩
   · obtain ⟨a1,a2,bo,a3,a4⟩:=k3 j o' hj
     refine ⟨by omega,by simp; omega,bo,?_,a4⟩
     rw [show j - k = (j - (k + 1)) + 1 by omega]
     simpa using a3
theorem extSls_sound (hob:∀ id e l,look hp id = some (.frz e l) → ObR w Φ β hp id (.frz e l)) (c:Corr ρ β γ hp hp'):∀ {sts:List SlT} {vs:List SVal} {us:List Value} {ds:List Dyn},SVRs w Φ β hp vs us → extSls ρ hp sts vs = some ds →
  ∀ rest,(instSls sts (ds ++ rest)).2 = rest ∧ SVRs w Φ γ hp' (instSls sts (ds ++ rest)).1 us
 | [],[],us,ds,hv,h,rest => by simp [extSls] at h; subst h; exact ⟨rfl,hv⟩
 | [],_ :: _,us,ds,hv,h,rest => by simp [extSls] at h
 | _ :: _,[],us,ds,hv,h,rest => by simp [extSls] at h
 | st :: r,v :: vs,us,ds,⟨u,us',e,h1,h2⟩,h,rest => by
   subst e
   simp only [extSls] at h
   split at h
   case h_2 => cases h
   rename_i d ds' hd hds
   cases h
   have one:(instSl st (d ++ (ds' ++ rest))).2 = ds' ++ rest ∧ SVR w Φ γ hp' (instSl st (d ++ (ds' ++ rest))).1 u:=by
    unfold extSl at hd
    split at hd
    · rename_i l x
      obtain ⟨a1,a2,a3⟩:=extLs_form hd (ds' ++ rest)
      have a4:=extLs_sound hob c (lts:=[l]) (ls:=[x]) (us:=[u]) ⟨u,[],rfl,h1,rfl⟩ hd
      rw [← a2] at a4
      simp only [instLs,List.append_nil] at a1 a4
      refine ⟨by simp [instSl,a1],?_⟩
      simp only [instSl]
      have hl:=LfRs_len a4
      match hh:(instL l (d ++ (ds' ++ rest))).1,hl,a4 with
      | [y],_,a4 => obtain ⟨q,qs,e,g1,g2⟩:=a4; cases e; exact g1
    · rename_i ls xs
      obtain ⟨vs',e,h1⟩:=h1
      obtain ⟨a1,a2,a3⟩:=extLs_form hd (ds' ++ rest)
      have a4:=extLs_sound hob c h1 hd
      rw [← a2] at a4
      exact ⟨by simp [instSl,a1],vs',e,by simpa [instSl] using a4⟩
    · cases hd
      exact ⟨rfl,trivial⟩
    · cases hd
   obtain ⟨k1,k2⟩:=extSls_sound hob c h2 hds rest
   simp only [instSls,List.append_assoc,one.1]
   exact ⟨k1,u,us',rfl,one.2,k2⟩
def OwnH (w:World) (γ:Loc) (hp:List (Nat × SObj)) (b:Nat):Prop:=(∃ id ob p,look hp id = some ob ∧ ob.owned = true ∧ γ id = some (some (b,p))) ∨ ∃ id ob,look hp id = some ob ∧ RowB w γ id ob b
structure InstR (w:World) (Φ:Nat → Prop) (T:Tm) (ds:List Dyn) (vals:List Value) (γ:Loc):Prop where
 vals:SVRs w Φ γ (T.heap ds) (T.vals ds) vals
 hp:HpR w Φ γ ⟨[],T.heap ds,T.objs.length,[]⟩
theorem has_mem:∀ {l:List Nat} {x:Nat},has l x = true ↔ x ∈ l
 | [],x => by simp [has]
 | k :: r,x => by
   simp only [has]
   cases hb:Nat.beq k x with
   | true => simp [Nat.eq_of_beq_eq_true hb]
   | false =>
     have:x ≠ k:=fun e => by subst e; rw [Nat.beq_refl] at hb; cases hb
     simp [has_mem (l:=r),this]
theorem nodupB_spec:∀ {l:List Nat},nodupB l = true → l.Nodup
 | [],_ => List.nodup_nil
 | x :: r,h => by
   simp only [nodupB,and_eq_true,Bool.not_eq_true'] at h
   refine List.nodup_cons.2 ⟨fun hm => ?_,nodupB_spec h.2⟩
   rw [has_mem.2 hm] at h; cases h.1
theorem freeB_spec {s:St}:∀ {l:List Nat},freeB s l = true → ∀ id ∈ l,s.held id = false
 | [],_,id,h => by cases h
 | x :: r,h,id,hm => by
   simp only [freeB,and_eq_true,Bool.not_eq_true'] at h
   rcases List.mem_cons.1 hm with e | hm
   · subst e; exact h.1
   · exact freeB_spec h.2 id hm
theorem rho_mem:∀ {ρ:Rho} {k id:Nat},ρ.at k = some id → id ∈ rhoIds ρ
 | [],k,id,h => by simp [Rho.at,nth] at h
 | some x :: r,0,id,h => by simp [Rho.at,nth] at h; subst h; simp [rhoIds]
 | none :: r,0,id,h => by simp [Rho.at,nth] at h
 | some x :: r,k + 1,id,h => List.mem_cons_of_mem _ (rho_mem (ρ:=r) (k:=k) (by simpa [Rho.at,nth] using h))
 | none :: r,k + 1,id,h => rho_mem (ρ:=r) (k:=k) (by simpa [Rho.at,nth] using h)
theorem rho_inj:∀ {ρ:Rho} {k j id:Nat},(rhoIds ρ).Nodup → ρ.at k = some id → ρ.at j = some id → k = j
 | [],k,j,id,_,h,_ => by simp [Rho.at,nth] at h
 | x :: r,0,0,id,_,_,_ => rfl
 | some x :: r,0,j + 1,id,hn,h,h' => by
   simp [Rho.at,nth] at h
   subst h
   exact absurd (rho_mem (ρ:=r) (k:=j) (by simpa [Rho.at,nth] using h')) (List.nodup_cons.1 hn).1
 | some x :: r,k + 1,0,id,hn,h',h => by
   simp [Rho.at,nth] at h
   subst h
   exact absurd (rho_mem (ρ:=r) (k:=k) (by simpa [Rho.at,nth] using h')) (List.nodup_cons.1 hn).1
 | none :: r,0,j + 1,id,hn,h,h' => by simp [Rho.at,nth] at h
 | none :: r,k + 1,0,id,hn,h,h' => by simp [Rho.at,nth] at h'
 | some x :: r,k + 1,j + 1,id,hn,h,h' => by
   have:=rho_inj (ρ:=r) (k:=k) (j:=j) (List.nodup_cons.1 hn).2 (by simpa [Rho.at,nth] using h) (by simpa [Rho.at,nth] using h')
   omega
 | none :: r,k + 1,j + 1,id,hn,h,h' => by
   have:=rho_inj (ρ:=r) (k:=k) (j:=j) hn (by simpa [Rho.at,nth] using h) (by simpa [Rho.at,nth] using h')
   omega
theorem rho_lt:∀ {ρ:Rho} {k id:Nat},ρ.at k = some id → k < ρ.length
 | [],k,id,h => by simp [Rho.at,nth] at h
 | x :: r,0,id,h => by simp
 | x :: r,k + 1,id,h => by have:=rho_lt (ρ:=r) (k:=k) (by simpa [Rho.at,nth] using h); simp; omega
theorem ext_inst {s:St} {T:Tm} {vs:List SVal} {us:List Value} {a b:List Dyn} (hh:HpR w Φ β s) (hv:SVRs w Φ β s.heap vs us) (ha:extObs ρ s.heap 0 T.objs = some a) (hb:extSls ρ s.heap T.slots vs = some b)
  (hn:(rhoIds ρ).Nodup) (hl:ρ.length ≤ T.objs.length):InstR w Φ T (a ++ b) us (fun k => (ρ.at k).bind β) ∧
    (∀ k id,ρ.at k = some id → ∀ r,rowOf (look (T.heap (a ++ b)) k) = some r → rowOf (look s.heap id) = some r) ∧
    (∀ k o',look (T.heap (a ++ b)) k = some o' → k < T.objs.length ∧ ∃ bo,T.objs[k]? = some bo ∧ (bo.2 = .gone ∧ o' = .dead ∨ ∃ id ob,ρ.at k = some id ∧ look s.heap id = some ob ∧ ob.owned = true ∧ o'.owned = true ∧ (o'.isRows = true → o' = ob))):=by
 obtain ⟨h1,h2,h3⟩:=extObs_form ha b
 have hheap:T.heap (a ++ b) = (instObs 0 T.objs a).1:=h2
 have hvals:T.vals (a ++ b) = (instSls T.slots b).1:=by unfold Tm.vals; rw [h1]
 have hob:∀ id e l,look s.heap id = some (.frz e l) → ObR w Φ β s.heap id (.frz e l):=fun id e l h => hh.ob id _ h
 have hγ:∀ k id,ρ.at k = some id → (fun k => (ρ.at k).bind β) k = β id:=fun k id h => by simp [h]
 have hrow:∀ k id,ρ.at k = some id → ∀ r,rowOf (look (T.heap (a ++ b)) k) = some r → rowOf (look s.heap id) = some r:=by
  intro k id hk r hr
  rw [hheap] at hr
  cases hlk:look (instObs 0 T.objs a).1 k with
  | none => rw [hlk] at hr; cases hr
  | some o' =>
    rw [hlk] at hr
    obtain ⟨_,_,bo,_,hc⟩:=h3 k o' hlk
    rcases hc with ⟨_,hd⟩ | ⟨id',ob,g1,g2,g3⟩
    · subst hd; cases hr
    · rw [hk] at g1; cases g1; rw [g2,← g3.row]; exact hr
 have c:Corr ρ β (fun k => (ρ.at k).bind β) s.heap (T.heap (a ++ b)):=⟨hγ,hrow⟩
 have hinfo:∀ k o',look (T.heap (a ++ b)) k = some o' → k < T.objs.length ∧ ∃ bo,T.objs[k]? = some bo ∧ (bo.2 = .gone ∧ o' = .dead ∨ ∃ id ob,ρ.at k = some id ∧ look s.heap id = some ob ∧ CorO ρ s.heap ob o'):=by
  intro k o' hk
  rw [hheap] at hk
  obtain ⟨_,g2,bo,g3,g4⟩:=h3 k o' hk
  exact ⟨by omega,bo,by simpa using g3,g4⟩
 have hrl:∀ k o' c,look (T.heap (a ++ b)) k = some o' → RowB w (fun k => (ρ.at k).bind β) k o' c → ∃ id ob,ρ.at k = some id ∧ look s.heap id = some ob ∧ RowB w β id ob c:=by
  intro k o' c hk hc
  obtain ⟨_,bo,_,h4⟩:=hinfo k o' hk
  rcases h4 with ⟨_,hd⟩ | ⟨id,ob,g1,g2,g3⟩
  · subst hd; exact absurd hc (RowB_none rfl)
  · cases hir:o'.isRows with
    | false => exact absurd hc (RowB_none hir)
    | true =>
      have:=g3.rows hir
      subst this
      exact ⟨id,_,g1,g2,RowB_of (w:=w) (w':=w) (by simp [g1]) (fun _ _ _ => rfl) hc⟩
 refine ⟨⟨?_,⟨?_,?_,?_,?_,?_,hh.flt,?_,?_⟩⟩,hrow,fun k o' hk => ?_⟩
 · rw [hvals]
   have:=(extSls_sound hob c hv hb []).2
   simpa using this
 · intro k o' hk
   obtain ⟨_,bo,_,hc⟩:=hinfo k o' hk
   rcases hc with ⟨_,hd⟩ | ⟨id,ob,g1,g2,g3⟩
   · subst hd; trivial
   · have ho:=hh.ob id ob g2
     rcases g3 with ⟨cs,lts,d,rfl,e2,rfl⟩ | ⟨cs,lts,d,rfl,e2,rfl⟩ | ⟨e,l,rfl,rfl⟩ | ⟨kk,v,ag,l,rfl,rfl⟩ | ⟨hir,rfl⟩ | ⟨e,pre,cs,post,lts,d,rfl,e2,rfl⟩
     · obtain ⟨b,vs,k1,k2,k3,k4,k5⟩:=ho
       exact ⟨b,vs,by simp [g1,k1],k2,k3,k4,extLs_sound hob c k5 e2⟩
     · obtain ⟨b,vs,k1,k2,k3,k4,k5⟩:=ho
       exact ⟨b,vs,by simp [g1,k1],k2,k3,k4,extLs_sound hob c k5 e2⟩
     · rcases ho with ⟨k1,k2⟩ | ⟨b,o,k1,k2,k3,k4⟩
       · exact .inl ⟨by simp [g1,k1],k2⟩
       · exact .inr ⟨b,o,by simp [g1,k1],k2,k3,k4⟩
     · obtain ⟨b,es,cl,k1,k2⟩:=ho
       exact ⟨b,es,cl,by simp [g1,k1],k2⟩
     · cases o' with
       | rows e l g => obtain ⟨b,o,hs,k1,k2⟩:=ho; exact ⟨b,o,hs,by simp [g1,k1],k2⟩
       | mrows k e l g => obtain ⟨b,es,cl,k1,k2⟩:=ho; exact ⟨b,es,cl,by simp [g1,k1],k2⟩
       | _ => cases hir
     · obtain ⟨b,o,vs,k1,k2,k3,k4,k5,k6,k7,k8⟩:=ho
       exact ⟨b,o,vs,by simp [g1,k1],k2,k3,k4,k5,extLs_sound hob c k6 e2,k7,k8⟩
 · intro k x hk
   cases hr:ρ.at k with
   | none => simp [hr] at hk
   | some id => exact Nat.lt_of_lt_of_le (rho_lt hr) hl
 · intro k o' hk
   exact (hinfo k o' hk).1
 · intro k k' o o' b p p' hk hk' ho ho' hb hb'
   obtain ⟨_,bo,_,hc⟩:=hinfo k o hk
   obtain ⟨_,bo',_,hc'⟩:=hinfo k' o' hk'
   rcases hc with ⟨_,hd⟩ | ⟨id,ob,g1,g2,g3⟩
   · subst hd; cases ho
   rcases hc' with ⟨_,hd⟩ | ⟨id',ob',g1',g2',g3'⟩
   · subst hd; cases ho'
   simp only [g1,g1',Option.bind_some] at hb hb'
   have:=hh.inj id id' ob ob' b p p' g2 g2' g3.owned.2 g3'.owned.2 hb hb'
   subst this
   exact rho_inj hn g1 g1'
 · intro k b p hk
   cases hr:ρ.at k with
   | none => simp [hr] at hk
   | some id => exact hh.blt id b p (by simpa [hr] using hk)
 · intro k o' c hk hc
   obtain ⟨id,ob,g1,g2,g3⟩:=hrl k o' c hk hc
   obtain ⟨k1,k2,k3⟩:=hh.rin id ob c g2 g3
   refine ⟨k1,k2,fun k' o2 p hk' ho' hb => ?_⟩
   obtain ⟨_,bo',_,hc'⟩:=hinfo k' o2 hk'
   rcases hc' with ⟨_,hd⟩ | ⟨id',ob',g1',g2',g3'⟩
   · subst hd; cases ho'
   · exact k3 id' ob' p g2' g3'.owned.2 (by simpa [g1'] using hb)
 · intro k k' o o' c hk hk' hc hc'
   obtain ⟨id,ob,g1,g2,g3⟩:=hrl k o c hk hc
   obtain ⟨id',ob',g1',g2',g3'⟩:=hrl k' o' c hk' hc'
   have:=hh.rinj id id' ob ob' c g2 g2' g3 g3'
   subst this
   exact rho_inj hn g1 g1'
 · obtain ⟨g1,bo,g2,hc⟩:=hinfo k o' hk
   refine ⟨g1,bo,g2,?_⟩
   rcases hc with hc | ⟨id,ob,e1,e2,e3⟩
   · exact .inl hc
   · exact .inr ⟨id,ob,e1,e2,e3.owned.2,e3.owned.1,e3.rows⟩
end
section
variable {w0:World} {Φ0 own0:Nat → Prop} {N:Frm} {w w':World} {Φ Φ':Nat → Prop} {β β' β2:Loc} {a:Act} {objs:List (Bool × ObT)}
theorem bind_at:∀ {ρ:Rho} {k id j i:Nat},ρ.at k = some id → (ρ.bind j i).at k = some id
 | [],k,id,j,i,h => by simp [Rho.at,nth] at h
 | some x :: r,0,id,0,i,h => by simpa [Rho.bind,Rho.at,nth] using h
 | none :: r,0,id,0,i,h => by simp [Rho.at,nth] at h
 | x :: r,0,id,j + 1,i,h => by simpa [Rho.bind,Rho.at,nth] using h
 | some x :: r,k + 1,id,0,i,h => by simpa [Rho.bind,Rho.at,nth] using h
 | none :: r,k + 1,id,0,i,h => by simpa [Rho.bind,Rho.at,nth] using h
 | x :: r,k + 1,id,j + 1,i,h => by
   have:=bind_at (ρ:=r) (k:=k) (j:=j) (i:=i) (by simpa [Rho.at,nth] using h)
   simpa [Rho.bind,Rho.at,nth] using this
theorem bindIds_at:∀ {xs ys:List (Option Nat)} {ρ:Rho} {k id:Nat},ρ.at k = some id → (bindIds ρ xs ys).at k = some id
 | [],_,ρ,k,id,h => by simpa [bindIds] using h
 | some j :: r,[],ρ,k,id,h => by simpa [bindIds] using h
 | some j :: r,none :: s,ρ,k,id,h => by simpa [bindIds] using h
 | some j :: r,some i :: s,ρ,k,id,h => by simp only [bindIds]; exact bindIds_at (bind_at h)
 | none :: r,[],ρ,k,id,h => by simpa [bindIds] using h
 | none :: r,x :: s,ρ,k,id,h => by simp only [bindIds]; exact bindIds_at h
structure Prep (w:World) (Φ:Nat → Prop) (β:Loc) (p:PS) (β':Loc) (p':PS):Prop where
 mono:Mono w Φ β p.s.heap w Φ β' p'.s.heap
 env:p'.s.env = p.s.env
 hold:p'.s.hold = p.s.hold
 old:∀ id ob,look p.s.heap id = some ob → (∀ e l,ob ≠ .arr e l) → look p'.s.heap id = some ob
 rho:∀ k id,p.ρ.at k = some id → p'.ρ.at k = some id
 gh:(∀ id ∈ p.g,β id = some none) → ∀ id ∈ p'.g,β' id = some none
theorem Mono.refl (w:World) (Φ:Nat → Prop) (β:Loc) (hp:List (Nat × SObj)):Mono w Φ β hp w Φ β hp:=⟨fun _ _ => rfl,fun _ h => h,fun _ _ h => h,fun _ _ _ _ h => h,fun _ _ _ _ _ _ => rfl⟩
theorem Prep.refl (β:Loc) (p:PS):Prep w Φ β p β p:=⟨.refl ..,rfl,rfl,fun _ _ h _ => h,fun _ _ h => h,fun h => h⟩
theorem Prep.bind (β:Loc) (p:PS) (ρ:Rho) (h:∀ k id,p.ρ.at k = some id → ρ.at k = some id):Prep w Φ β p β { p with ρ:=ρ }:=⟨.refl ..,rfl,rfl,fun _ _ h _ => h,h,fun h => h⟩
theorem Prep.frz (β:Loc) (p:PS) (f:List Nat):Prep w Φ β p β { p with f:=f }:=⟨.refl ..,rfl,rfl,fun _ _ h _ => h,fun _ _ h => h,fun h => h⟩
theorem Prep.trans {p p' p2:PS} (h:Prep w Φ β p β' p') (k:Prep w Φ β' p' β2 p2):Prep w Φ β p β2 p2 :=
 ⟨h.mono.trans k.mono,k.env.trans h.env,k.hold.trans h.hold,fun id ob g g' => k.old id ob (h.old id ob g g') g',fun j i g => k.rho j i (h.rho j i g),fun g => k.gh (h.gh g)⟩
theorem ghost_sound {s:St} (hr:Rel w0 Φ0 own0 N w Φ β s a) (e:CT):Rel w0 Φ0 own0 N w Φ (β.at s.next none) (s.new (.arr e [])) a ∧ Mono w Φ β s.heap w Φ (β.at s.next none) (s.new (.arr e [])).heap :=
 ⟨hr.adopt (.arr e []) rfl none (fun _ _ h => by cases h) (.inl ⟨by simp [Loc.at],rfl⟩),mono_adopt hr.hp _ _⟩
theorem mono_dead {s:St} {id:Nat}:Mono w Φ β s.heap w Φ β (s.put id .dead).heap:=by
 refine ⟨fun _ _ => rfl,fun _ h => h,fun _ _ h => h,?_,fun _ _ _ _ _ _ => rfl⟩
 intro j x hx r hrr
 simp only [St.put,look_cons] at hrr
 split at hrr
 · cases hrr
 · exact hrr
theorem reslice_sound {s:St} (hr:Rel w0 Φ0 own0 N w Φ β s a) {id:Nat} {e:CT} {l:List e.denote} {r:Nat × Nat} {u:Value} (hl:look s.heap id = some (.arr e l)) (hh:s.held id = false) (hsz:0 < e.size) (hv:LfR w Φ β s.heap (.sl id (some r)) u) :
  ∃ β',Rel w0 Φ0 own0 N w Φ β' ((s.put id .dead).new (.arr e (sub l (some r)))) a ∧ Mono w Φ β s.heap w Φ β' ((s.put id .dead).new (.arr e (sub l (some r)))).heap ∧
   LfR w Φ β' ((s.put id .dead).new (.arr e (sub l (some r)))).heap (.sl s.next none) u:=by
 have hgive:=hr.give rfl hl rfl hh
 have hfree:∀ b' p,β id = some (some (b',p)) → (∀ id' ob q,look (s.put id .dead).heap id' = some ob → ob.owned = true → β id' ≠ some (some (b',q))) ∧ b' < w.heap.size ∧ (own0 b' ∨ w0.heap.size ≤ b'):=by
  intro b' p hp
  refine ⟨fun id' ob q hl' ho' hq => ?_,hr.hp.blt id b' p hp,hr.mine hh hl rfl hp⟩
  simp only [St.put,look_cons] at hl'
  split at hl'
  · cases hl'; cases ho'
  · rename_i hne; exact hne (hr.hp.inj id id' _ _ b' p q hl hl' rfl ho' hp hq)
 obtain ⟨loc,hloc,hsh,hs⟩:=hv
 have hsl:=hs e.size l.length (by rw [hl]; rfl)
 have hm:=(mono_dead (w:=w) (Φ:=Φ) (β:=β) (s:=s) (id:=id)).trans (mono_adopt hgive.hp (.arr e (sub l (some r))) none)
 have empty:sub l (some r) = [] → (∃ z,u = .slice z 0 0) → ∃ β',Rel w0 Φ0 own0 N w Φ β' ((s.put id .dead).new (.arr e (sub l (some r)))) a ∧ Mono w Φ β s.heap w Φ β' ((s.put id .dead).new (.arr e (sub l (some r)))).heap ∧
   LfR w Φ β' ((s.put id .dead).new (.arr e (sub l (some r)))).heap (.sl s.next none) u:=by
  intro h1 h2
  refine ⟨β.at s.next none,hgive.adopt (.arr e (sub l (some r))) rfl none (fun _ _ h => by cases h) (.inl ⟨by simp [Loc.at,St.put],h1⟩),hm,none,by simp [Loc.at],hsh,fun sz n hrw => ?_⟩
  simp only [St.new,St.put,look_cons,if_true,rowOf] at hrw
  cases hrw
  exact ⟨h2,by rw [h1]; rfl,by rw [h1]; rfl⟩
 cases loc with
 | none =>
   obtain ⟨h1,h2,h3⟩:=hsl
   have:l = []:=List.eq_nil_of_length_eq_zero h2
   subst this
   exact empty (by simp [sub]) h1
 | some bo =>
   obtain ⟨b,o⟩:=bo
   obtain ⟨o',cap,e1,e2,e3,e4,e5,_⟩:=hsl
   simp only [Option.getD_some] at e1 e2 e3 e4
   have hlen:=sub_len l (some r) (by simpa using e4)
   simp only [Option.getD_some] at hlen
   by_cases hc:cap = 0
   · have h0:r.2 = 0:=by omega
     exact empty (List.eq_nil_of_length_eq_zero (by rw [hlen,h0])) ⟨_,by rw [e1,h0,hc]⟩
   · have h3:o' = o + r.1 * e.size:=by rcases e3 with e3 | e3; exact e3; exact absurd e3 hc
     have h5:o' + cap * e.size = blockSize w b:=by rcases e5 with e5 | e5; exact e5; exact absurd e5 hc
     rcases hr.hp.ob id _ hl with ⟨g1,_⟩ | ⟨b',p',g1,hnΦ,hfz,hrow⟩
     · rw [hloc] at g1; cases g1
     rw [hloc] at g1; cases g1
     have hrow':RowAt w Φ e b o' (sub l (some r)):=by
      intro j xx hj
      obtain ⟨us,k1,k2⟩:=hrow _ xx (sub_nth l (some r) j xx hj)
      refine ⟨us,?_,k2⟩
      rw [h3]
      simpa [Nat.add_mul,Nat.add_assoc] using k1
     have hm2:=(mono_dead (w:=w) (Φ:=Φ) (β:=β) (s:=s) (id:=id)).trans (mono_adopt hgive.hp (.arr e (sub l (some r))) (some (b,o')))
     refine ⟨β.at s.next (some (b,o')),hgive.adopt (.arr e (sub l (some r))) rfl (some (b,o')) (fun b' p hbp => by cases hbp; obtain ⟨q1,q2,q3⟩:=hfree b o hloc; exact ⟨q1,q2,q3,norow hr hl rfl hloc (fun _ _ => rfl)⟩) (.inr ⟨b,o',by simp [Loc.at,St.put],hnΦ,hfz,hrow'⟩),hm2,
      some (b,o'),by simp [Loc.at],hsh,fun sz n hrw => ?_⟩
     simp only [St.new,St.put,look_cons,if_true,rowOf] at hrw
     cases hrw
     exact ⟨o',cap,by rw [e1]; simp [hlen],by simp [hlen]; omega,.inl (by simp),by simp,.inl h5,fun _ => ⟨rfl,h5,hsz⟩⟩
theorem prepL_sound {lt:LT} {l:Leaf} {u:Value} {p:PS} (hr:Rel w0 Φ0 own0 N w Φ β p.s a) (hg:∀ id ∈ p.g,β id = some none) (hv:LfR w Φ β p.s.heap l u) :
  ∃ β',Rel w0 Φ0 own0 N w Φ β' (prepL objs lt l p).2.s a ∧ Prep w Φ β p β' (prepL objs lt l p).2 ∧ LfR w Φ β' (prepL objs lt l p).2.s.heap (prepL objs lt l p).1 u:=by
 unfold prepL
 split
 · exact ⟨β,hr,.bind _ _ _ (fun _ _ => bind_at),hv⟩
 · exact ⟨β,hr,.bind _ _ _ (fun _ _ => bind_at),hv⟩
 · exact ⟨β,hr,.bind _ _ _ (fun _ _ => bind_at),hv⟩
 · rename_i k id r
   split
   · rename_i e l hk hl
     cases hc:(p.s.held id || !Nat.blt 0 e.size) with
     | true => exact ⟨β,hr,.refl ..,hv⟩
     | false =>
       simp only [Bool.or_eq_false_iff,Bool.not_eq_false'] at hc
       obtain ⟨β',g1,g2,g3⟩:=reslice_sound hr hl hc.1 (by rw [← Nat.blt_eq]; exact hc.2) hv
       refine ⟨β',g1,⟨g2,rfl,rfl,fun j ob hj hne => ?_,fun _ _ => bind_at,fun h j hj => g2.loc _ _ (h j hj)⟩,g3⟩
       have h1:j ≠ p.s.next:=fun e => by subst e; rw [hr.hp.look_next] at hj; cases hj
       have h2:j ≠ id:=fun e => by subst e; rw [hl] at hj; cases hj; exact hne _ _ rfl
       show look ((p.s.put id .dead).new _).heap j = _
       simp only [St.new,St.put,look_cons]
       rw [if_neg (fun e => h1 e.symm),if_neg (fun e => h2 e.symm)]
       exact hj
   · exact ⟨β,hr,.refl ..,hv⟩
 · rename_i k
   split
   · rename_i id hk
     cases hc:has p.g id with
     | false => exact ⟨β,hr,.refl ..,hv⟩
     | true =>
       refine ⟨β,hr,.refl ..,none,hg id (has_mem.1 hc),⟨_,_,_,hv⟩,fun sz n hrw => ?_⟩
       have hv':u = .slice none 0 0:=hv
       replace hrw:rowOf (look p.s.heap id) = some (sz,n):=hrw
       cases hl:look p.s.heap id with
       | none => rw [hl] at hrw; cases hrw
       | some ob =>
         have hob:=hr.hp.ob id ob hl
         have hb:=hg id (has_mem.1 hc)
         rw [hl] at hrw
         have h0:n = 0:=by
          cases ob with
          | dead => cases hrw
          | box cs => cases hrw
          | map _ _ _ _ => cases hrw
          | mrows _ _ _ _ => cases hrw
          | rows e l g => obtain ⟨b,o,hs,k1,_⟩:=hob; rw [hb] at k1; cases k1
          | zip e l cs q => obtain ⟨b,o,hs,k1,_⟩:=hob; rw [hb] at k1; cases k1
          | cells cs => obtain ⟨b,vs,k1,_⟩:=hob; rw [hb] at k1; cases k1
          | arr e l =>
            rcases hob with ⟨_,k2⟩ | ⟨b,o,k1,_⟩
            · subst k2; cases hrw; rfl
            · rw [hb] at k1; cases k1
          | frz e l =>
            rcases hob with ⟨_,k2⟩ | ⟨b,o,k1,_⟩
            · subst k2; cases hrw; rfl
            · rw [hb] at k1; cases k1
         subst h0
         exact ⟨⟨none,hv'⟩,rfl,rfl⟩
   · split
     · rename_i bb e hk
       obtain ⟨g1,g2⟩:=ghost_sound hr e
       refine ⟨_,g1,⟨g2,rfl,rfl,fun j ob hj hne => ?_,fun _ _ => bind_at,fun h j hj => ?_⟩,none,by simp [Loc.at],⟨_,_,_,hv⟩,fun sz n hrw => ?_⟩
       · have h1:j ≠ p.s.next:=fun e => by subst e; rw [hr.hp.look_next] at hj; cases hj
         show look (p.s.new _).heap j = _
         simp only [St.new,look_cons]
         rw [if_neg (fun e => h1 e.symm)]
         exact hj
       · rcases List.mem_cons.1 hj with e1 | hj
         · subst e1; simp [Loc.at]
         · exact g2.loc _ _ (h j hj)
       · simp only [St.new,look_cons,if_true,rowOf] at hrw
         cases hrw
         exact ⟨⟨none,hv⟩,rfl,rfl⟩
     · exact ⟨β,hr,.refl ..,hv⟩
 · exact ⟨β,hr,.bind _ _ _ (fun _ _ h => bindIds_at (bindIds_at h)),hv⟩
 · exact ⟨β,hr,.bind _ _ _ (fun _ _ => bind_at),hv⟩
 · exact ⟨β,hr,.bind _ _ _ (fun _ _ => bind_at),hv⟩
 · exact ⟨β,hr,.bind _ _ _ (fun _ _ => bind_at),hv⟩
 · exact ⟨β,hr,.refl ..,hv⟩
theorem SVRs_mono {hp hp':List (Nat × SObj)} (m:Mono w Φ β hp w' Φ' β' hp'):∀ {l:List SVal} {v:List Value},SVRs w Φ β hp l v → SVRs w' Φ' β' hp' l v
 | [],_,h => h
 | l :: ls,_,⟨v,vs',e,h1,h2⟩ => ⟨v,vs',e,SVR_mono m _ _ h1,SVRs_mono m h2⟩
theorem LfRs_cut {β:Loc} {hp:List (Nat × SObj)} {ls:List Leaf} {us:List Value} (n:Nat) (h1:LfRs w Φ β hp (ls.take n) (us.take n)) (m:List Leaf) (h2:LfRs w Φ β hp m (us.drop n)):LfRs w Φ β hp (ls.take n ++ m) us:=by
 have:=LfRs_app h1 h2
 rwa [List.take_append_drop] at this
theorem prepLs_sound:∀ {lts:List LT} {ls:List Leaf} {us:List Value} {p:PS} {β:Loc},Rel w0 Φ0 own0 N w Φ β p.s a → (∀ id ∈ p.g,β id = some none) → LfRs w Φ β p.s.heap ls us →
  ∃ β',Rel w0 Φ0 own0 N w Φ β' (prepLs objs lts ls p).2.s a ∧ Prep w Φ β p β' (prepLs objs lts ls p).2 ∧ LfRs w Φ β' (prepLs objs lts ls p).2.s.heap (prepLs objs lts ls p).1 us
 | [],ls,us,p,β,hr,hg,hv => ⟨β,hr,.refl ..,hv⟩
 | lt :: r,ls,us,p,β,hr,hg,hv => by
   simp only [prepLs]
   split
   · rename_i t ht
     obtain ⟨β',g1,g2,g3⟩:=prepLs_sound (lts:=r) (p:={ p with f:=slIds (ls.take t.size) ++ p.f }) hr hg (LfRs_drop t.size hv)
     refine ⟨β',g1,(Prep.frz β p _).trans g2,?_⟩
     exact LfRs_cut t.size (LfRs_mono g2.mono _ _ (LfRs_take t.size hv)) _ g3
   · cases ls with
     | nil => exact ⟨β,hr,.refl ..,hv⟩
     | cons l ls =>
       obtain ⟨u,us',e,h1,h2⟩:=hv
       subst e
       obtain ⟨β1,g1,g2,g3⟩:=prepL_sound (objs:=objs) (lt:=lt) hr hg h1
       obtain ⟨β2,k1,k2,k3⟩:=prepLs_sound (lts:=r) g1 (g2.gh hg) (LfRs_mono g2.mono _ _ h2)
       exact ⟨β2,k1,g2.trans k2,u,us',rfl,LfR_mono k2.mono _ _ g3,k3⟩
theorem prepSl_sound {st:SlT} {v:SVal} {u:Value} {p:PS} (hr:Rel w0 Φ0 own0 N w Φ β p.s a) (hg:∀ id ∈ p.g,β id = some none) (hv:SVR w Φ β p.s.heap v u) :
  ∃ β',Rel w0 Φ0 own0 N w Φ β' (prepSl objs st v p).2.s a ∧ Prep w Φ β p β' (prepSl objs st v p).2 ∧ SVR w Φ β' (prepSl objs st v p).2.s.heap (prepSl objs st v p).1 u:=by
 unfold prepSl
 split
 · rename_i l x
   obtain ⟨β',g1,g2,g3⟩:=prepLs_sound (objs:=objs) (lts:=[l]) (ls:=[x]) (us:=[u]) hr hg ⟨u,[],rfl,hv,rfl⟩
   split
   · rename_i x' hx
     rw [hx] at g3
     obtain ⟨q,qs,e,h1,h2⟩:=g3
     cases e
     exact ⟨β',g1,g2,h1⟩
   · exact ⟨β,hr,.refl ..,hv⟩
 · obtain ⟨vs,e,h1⟩:=hv
   obtain ⟨β',g1,g2,g3⟩:=prepLs_sound (objs:=objs) hr hg h1
   exact ⟨β',g1,g2,vs,e,g3⟩
 · exact ⟨β,hr,.refl ..,hv⟩
theorem prepSls_sound:∀ {sts:List SlT} {vs:List SVal} {us:List Value} {p:PS} {β:Loc},Rel w0 Φ0 own0 N w Φ β p.s a → (∀ id ∈ p.g,β id = some none) → SVRs w Φ β p.s.heap vs us →
  ∃ β',Rel w0 Φ0 own0 N w Φ β' (prepSls objs sts vs p).2.s a ∧ Prep w Φ β p β' (prepSls objs sts vs p).2 ∧ SVRs w Φ β' (prepSls objs sts vs p).2.s.heap (prepSls objs sts vs p).1 us
 | [],vs,us,p,β,hr,hg,hv => by cases vs <;> exact ⟨β,hr,.refl ..,hv⟩
 | st :: r,[],us,p,β,hr,hg,hv => ⟨β,hr,.refl ..,hv⟩
 | st :: r,v :: vs,us,p,β,hr,hg,⟨u,us',e,h1,h2⟩ => by
   subst e
   obtain ⟨β1,g1,g2,g3⟩:=prepSl_sound (objs:=objs) (st:=st) hr hg h1
   obtain ⟨β2,k1,k2,k3⟩:=prepSls_sound (sts:=r) g1 (g2.gh hg) (SVRs_mono g2.mono h2)
   exact ⟨β2,k1,g2.trans k2,u,us',rfl,SVR_mono k2.mono _ _ g3,k3⟩
structure Mk (mk:List Leaf → SObj) (q:Nat):Prop where
 nr:∀ cs,(mk cs).isRows = false
 ow:∀ cs,(mk cs).owned = true
 na:∀ cs e l,mk cs ≠ .arr e l
 row:∀ cs cs',cs.length = cs'.length → rowOf (some (mk cs)) = rowOf (some (mk cs'))
 ob:∀ (w:World) (Φ:Nat → Prop) (β:Loc) (hp:List (Nat × SObj)) (id:Nat) (cs:List Leaf),ObR w Φ β hp id (mk cs) → ∃ b o us,β id = some (some (b,o)) ∧ cellsAt w b (o + q) us ∧ LfRs w Φ β hp cs us ∧
  ∀ hp' cs',Mono w Φ β hp w Φ β hp' → LfRs w Φ β hp' cs' us → ObR w Φ β hp' id (mk cs')
theorem Mk.box:Mk .box 0:=⟨fun _ => rfl,fun _ => rfl,fun _ _ _ h => (by cases h),fun _ _ _ => rfl,fun w Φ β hp id cs h => by
 obtain ⟨b,vs,k1,k2,k3,k4,k5⟩:=h
 exact ⟨b,0,vs,k1,k4,k5,fun hp' cs' m h' => ⟨b,vs,k1,k2,k3,k4,h'⟩⟩⟩
theorem Mk.cells:Mk .cells 0:=⟨fun _ => rfl,fun _ => rfl,fun _ _ _ h => (by cases h),fun _ _ h => (by simp [rowOf,h]),fun w Φ β hp id cs h => by
 obtain ⟨b,vs,k1,k2,k3,k4,k5⟩:=h
 exact ⟨b,0,vs,k1,k4,k5,fun hp' cs' m h' => ⟨b,vs,k1,k2,k3,k4,h'⟩⟩⟩
theorem Mk.zip (e:CT) (pre post:List e.denote):Mk (fun cs => .zip e pre cs post) (pre.length * e.size):=⟨fun _ => rfl,fun _ => rfl,fun _ _ _ h => (by cases h),fun _ _ _ => rfl,fun w Φ β hp id cs h => by
 obtain ⟨b,o,vs,k1,k2,k3,k4,k5,k6,k7,k8⟩:=h
 exact ⟨b,o,vs,k1,k5,k6,fun hp' cs' m h' => ⟨b,o,vs,k1,k2,k3,k4,k5,h',k7,k8⟩⟩⟩
theorem swap_sound {s:St} (hr:Rel w0 Φ0 own0 N w Φ β s a) {id q:Nat} {mk:List Leaf → SObj} (hmk:Mk mk q) {cs cs':List Leaf} (hl:look s.heap id = some (mk cs)) (hh:s.held id = false)
  (h:∀ b o us,β id = some (some (b,o)) → cellsAt w b (o + q) us → LfRs w Φ β s.heap cs us → LfRs w Φ β s.heap cs' us):Rel w0 Φ0 own0 N w Φ β (s.put id (mk cs')) a ∧ Mono w Φ β s.heap w Φ β (s.put id (mk cs')).heap:=by
 obtain ⟨b,o,us,k1,k4,k5,kf⟩:=hmk.ob _ _ _ _ _ _ (hr.hp.ob id _ hl)
 have h':=h b o us k1 k4 k5
 have hlen:rowOf (some (mk cs')) = rowOf (some (mk cs)):=hmk.row _ _ (by rw [← LfRs_len h',← LfRs_len k5])
 have m:Mono w Φ β s.heap w Φ β (s.put id (mk cs')).heap:=by
  refine ⟨fun _ _ => rfl,fun _ h => h,fun _ _ h => h,?_,fun _ _ _ _ _ _ => rfl⟩
  intro j x hx r hrr
  simp only [St.put,look_cons] at hrr
  split at hrr
  · rename_i e; subst e; rw [hl,← hlen]; exact hrr
  · exact hrr
 exact ⟨hr.turn (hmk.nr _) (hmk.nr _) hl (.inl (hmk.ow _)) hh w Φ hr.same rfl (fun _ h => h) (fun _ h => .inl h) (fun _ _ _ => rfl) (fun _ _ => rfl) (fun _ _ => rfl) (.inl hlen) (kf _ _ m (LfRs_mono m _ _ h')),m⟩
theorem prepOb_sound {id q:Nat} {mk:List Leaf → SObj} (hmk:Mk mk q) {lts:List LT} {cs:List Leaf} {p:PS} (hr:Rel w0 Φ0 own0 N w Φ β p.s a) (hg:∀ id ∈ p.g,β id = some none) (hl:look p.s.heap id = some (mk cs)) :
  ∃ β',Rel w0 Φ0 own0 N w Φ β' (prepOb objs id mk lts cs p).s a ∧ Mono w Φ β p.s.heap w Φ β' (prepOb objs id mk lts cs p).s.heap ∧ (prepOb objs id mk lts cs p).s.env = p.s.env ∧ (prepOb objs id mk lts cs p).s.hold = p.s.hold ∧
   (∀ k id',p.ρ.at k = some id' → (prepOb objs id mk lts cs p).ρ.at k = some id') ∧ (∀ id' ∈ (prepOb objs id mk lts cs p).g,β' id' = some none):=by
 obtain ⟨b,o,us,hb,hc,hus,_⟩:=hmk.ob _ _ _ _ _ _ (hr.hp.ob id _ hl)
 obtain ⟨β',g1,g2,g3⟩:=prepLs_sound (objs:=objs) (lts:=lts) hr hg hus
 unfold prepOb
 cases hcond:(Nat.beq (prepLs objs lts cs p).2.n p.n || p.s.held id) with
 | true => exact ⟨β',g1,g2.mono,g2.env,g2.hold,g2.rho,g2.gh hg⟩
 | false =>
   simp only [Bool.or_eq_false_iff] at hcond
   have hl':=g2.old id _ hl (fun e l => hmk.na _ e l)
   have hh':(prepLs objs lts cs p).2.s.held id = false:=by unfold St.held at *; rw [g2.hold]; exact hcond.2
   obtain ⟨k1,k2⟩:=swap_sound (cs':=(prepLs objs lts cs p).1) g1 hmk hl' hh' (fun b' o' us' hb' hc' h' => by
    rw [g2.mono.loc _ _ hb] at hb'
    cases hb'
    have:us' = us:=cellsAt_fun hc' hc (by rw [LfRs_len h',LfRs_len hus])
    subst this
    exact g3)
   exact ⟨β',k1,g2.mono.trans k2,g2.env,g2.hold,g2.rho,g2.gh hg⟩
theorem prepObs_sound:∀ {l:List (Bool × ObT)} {k:Nat} {p:PS} {β:Loc},Rel w0 Φ0 own0 N w Φ β p.s a → (∀ id ∈ p.g,β id = some none) →
  ∃ β',Rel w0 Φ0 own0 N w Φ β' (prepObs objs k l p).s a ∧ Mono w Φ β p.s.heap w Φ β' (prepObs objs k l p).s.heap ∧ (prepObs objs k l p).s.env = p.s.env ∧ (prepObs objs k l p).s.hold = p.s.hold ∧
   (∀ j id,p.ρ.at j = some id → (prepObs objs k l p).ρ.at j = some id)
 | [],k,p,β,hr,hg => ⟨β,hr,.refl ..,rfl,rfl,fun _ _ h => h⟩
 | o :: r,k,p,β,hr,hg => by
   simp only [prepObs]
   split
   · rename_i id hid
     split
     · rename_i ls cs ho hl
       obtain ⟨β1,g1,g2,g3,g4,g5,g6⟩:=prepOb_sound (objs:=objs) Mk.box (lts:=ls) hr hg hl
       obtain ⟨β2,k1,k2,k3,k4,k5⟩:=prepObs_sound (l:=r) (k:=k + 1) g1 g6
       exact ⟨β2,k1,g2.trans k2,k3.trans g3,k4.trans g4,fun j i h => k5 j i (g5 j i h)⟩
     · rename_i ls cs ho hl
       obtain ⟨β1,g1,g2,g3,g4,g5,g6⟩:=prepOb_sound (objs:=objs) Mk.cells (lts:=ls) hr hg hl
       obtain ⟨β2,k1,k2,k3,k4,k5⟩:=prepObs_sound (l:=r) (k:=k + 1) g1 g6
       exact ⟨β2,k1,g2.trans k2,k3.trans g3,k4.trans g4,fun j i h => k5 j i (g5 j i h)⟩
     · exact prepObs_sound (l:=r) (k:=k + 1) (p:={ p with f:=id :: p.f }) hr hg
     · exact prepObs_sound (l:=r) (k:=k + 1) (p:={ p with f:=id :: p.f }) hr hg
     · rename_i e' ls e pre cs post ho hl
       obtain ⟨β1,g1,g2,g3,g4,g5,g6⟩:=prepOb_sound (objs:=objs) (Mk.zip e pre post) (lts:=ls) hr hg hl
       obtain ⟨β2,k1,k2,k3,k4,k5⟩:=prepObs_sound (l:=r) (k:=k + 1) g1 g6
       exact ⟨β2,k1,g2.trans k2,k3.trans g3,k4.trans g4,fun j i h => k5 j i (g5 j i h)⟩
     · exact prepObs_sound (l:=r) (k:=k + 1) hr hg
   · exact prepObs_sound (l:=r) (k:=k + 1) hr hg
theorem unzip_sound {s:St} (hr:Rel w0 Φ0 own0 N w Φ β s a) {id:Nat} {e:CT} {pre:List e.denote} {cs:List Leaf} {post:List e.denote} (hl:look s.heap id = some (.zip e pre cs post)) (hh:s.held id = false) :
  ∃ Φ',Rel w0 Φ0 own0 N w Φ' β (unzip id e pre cs post s) a ∧ Mono w Φ β s.heap w Φ' β (unzip id e pre cs post s).heap ∧ (unzip id e pre cs post s).env = s.env ∧ (unzip id e pre cs post s).hold = s.hold:=by
 unfold unzip
 split
 case h_2 => exact ⟨Φ,hr,.refl ..,rfl,rfl⟩
 rename_i y s' hp
 obtain ⟨b,o,us,k1,k2,k3,k4,k5,k6,k7,k8⟩:=hr.hp.ob id _ hl
 obtain ⟨Φ',p1,p2,p3⟩:=packL_sound hr k6 hp
 split
 case h_2 => exact ⟨Φ',p1,p2.mono,p2.env,p2.hold⟩
 rename_i e2 pre2 cs2 post2 hl2
 have hl2':=p2.look id _ hl2 rfl
 rw [hl] at hl2'
 cases hl2'
 have hh':s'.held id = false:=by unfold St.held at *; rw [p2.hold]; exact hh
 obtain ⟨b',o',us',q1,q2,q3,q4,q5,q6,q7,q8⟩:=p1.hp.ob id _ hl2
 rw [k1] at q1; cases q1
 have hus:us' = us:=cellsAt_fun q5 k5 (by rw [q7,k7])
 subst hus
 have hrow:rowOf (some (.arr e (pre ++ y :: post))) = rowOf (some (.zip e pre cs post)):=by simp [rowOf]; omega
 have m:Mono w Φ' β s'.heap w Φ' β (s'.put id (.arr e (pre ++ y :: post))).heap:=by
  refine ⟨fun _ _ => rfl,fun _ h => h,fun _ _ h => h,?_,fun _ _ _ _ _ _ => rfl⟩
  intro j x hx r hrr
  simp only [St.put,look_cons] at hrr
  split at hrr
  · rename_i e; subst e; rw [hl2,← hrow]; exact hrr
  · exact hrr
 refine ⟨Φ',p1.turn rfl rfl hl2 (.inl rfl) hh' w Φ' p1.same rfl (fun _ h => h) (fun _ h => .inl h) (fun _ _ _ => rfl) (fun _ _ => rfl) (fun _ _ => rfl) (.inl hrow) (.inr ⟨b,o,k1,q2,q3,fun i x hx => ?_⟩),p2.mono.trans m,p2.env,p2.hold⟩
 rw [nth_getElem?] at hx
 rcases Nat.lt_trichotomy i pre.length with h | h | h
 · rw [List.getElem?_append_left h] at hx
   exact q4 i x (by rw [nth_getElem?]; exact hx)
 · subst h
   rw [List.getElem?_append_right (Nat.le_refl _),Nat.sub_self] at hx
   cases hx
   exact ⟨us',q5,p3⟩
 · rw [List.getElem?_append_right (by omega),show i - pre.length = (i - pre.length - 1) + 1 by omega,List.getElem?_cons_succ] at hx
   obtain ⟨vs,v1,v2⟩:=q8 _ x (by rw [nth_getElem?]; exact hx)
   refine ⟨vs,?_,v2⟩
   rw [Nat.add_assoc,← Nat.add_mul,show pre.length + 1 + (i - pre.length - 1) = i by omega] at v1
   exact v1
theorem frzs_sound:∀ {ids:List Nat} {s:St} {Φ:Nat → Prop},Rel w0 Φ0 own0 N w Φ β s a → ∃ Φ',Rel w0 Φ0 own0 N w Φ' β (frzs ids s) a ∧ Mono w Φ β s.heap w Φ' β (frzs ids s).heap ∧ (frzs ids s).env = s.env ∧ (frzs ids s).hold = s.hold
 | [],s,Φ,hr => ⟨Φ,hr,.refl ..,rfl,rfl⟩
 | id :: r,s,Φ,hr => by
   simp only [frzs]
   split
   · rename_i e l hl
     cases hh:s.held id with
     | true => exact frzs_sound (ids:=r) hr
     | false =>
       obtain ⟨Φ1,g1,g2,_⟩:=hr.freeze hl hh
       obtain ⟨Φ2,k1,k2,k3,k4⟩:=frzs_sound (ids:=r) g1
       exact ⟨Φ2,k1,g2.mono.trans k2,k3,k4⟩
   · rename_i e l hl
     cases hh:s.held id with
     | true => exact frzs_sound (ids:=r) hr
     | false =>
       obtain ⟨Φ1,g1,g2⟩:=hr.freezeR hl hh
       obtain ⟨Φ2,k1,k2,k3,k4⟩:=frzs_sound (ids:=r) g1
       exact ⟨Φ2,k1,g2.trans k2,k3,k4⟩
   · rename_i k e l hl
     cases hh:s.held id with
     | true => exact frzs_sound (ids:=r) hr
     | false =>
       obtain ⟨Φ1,g1,g2⟩:=hr.freezeM hl hh
       obtain ⟨Φ2,k1,k2,k3,k4⟩:=frzs_sound (ids:=r) g1
       exact ⟨Φ2,k1,g2.trans k2,k3,k4⟩
   · rename_i e pre cs post hl
     cases hh:s.held id with
     | true => exact frzs_sound (ids:=r) hr
     | false =>
       obtain ⟨Φ1,g1,g2,g3,g4⟩:=unzip_sound hr hl hh
       obtain ⟨Φ2,k1,k2,k3,k4⟩:=frzs_sound (ids:=r) g1
       exact ⟨Φ2,k1,g2.trans k2,k3.trans g3,k4.trans g4⟩
   · exact frzs_sound (ids:=r) hr
theorem rho_of_mem:∀ {ρ:Rho} {id:Nat},id ∈ rhoIds ρ → ∃ k,ρ.at k = some id
 | [],id,h => by simp [rhoIds] at h
 | some x :: r,id,h => by
   rcases List.mem_cons.1 h with e | h
   · subst e; exact ⟨0,rfl⟩
   · obtain ⟨k,hk⟩:=rho_of_mem (ρ:=r) h; exact ⟨k + 1,by simpa [Rho.at,nth] using hk⟩
 | none :: r,id,h => by obtain ⟨k,hk⟩:=rho_of_mem (ρ:=r) h; exact ⟨k + 1,by simpa [Rho.at,nth] using hk⟩
structure PackR (w0:World) (Φ0 own0:Nat → Prop) (N:Frm) (w:World) (Φ:Nat → Prop) (β:Loc) (s:St) (a:Act) (T:Tm) (ρ0:Rho) (us:List Value) (ds:List Dyn) (ρ:Rho) (s1:St) (Φ1:Nat → Prop) (β1:Loc):Prop where
 rel:Rel w0 Φ0 own0 N w Φ1 β1 s1 a
 inst:InstR w Φ1 T ds us (fun k => (ρ.at k).bind β1)
 row:∀ k id,ρ.at k = some id → ∀ r,rowOf (look (T.heap ds) k) = some r → rowOf (look s1.heap id) = some r
 obj:∀ k o',look (T.heap ds) k = some o' → k < T.objs.length ∧ ∃ bo,T.objs[k]? = some bo ∧ (bo.2 = .gone ∧ o' = .dead ∨ ∃ id ob,ρ.at k = some id ∧ look s1.heap id = some ob ∧ ob.owned = true ∧ o'.owned = true ∧ (o'.isRows = true → o' = ob))
 mono:Mono w Φ β s.heap w Φ1 β1 s1.heap
 env:s1.env = s.env
 hold:s1.hold = s.hold
 rho:∀ k id,ρ0.at k = some id → ρ.at k = some id
 nodup:(rhoIds ρ).Nodup
 len:ρ.length ≤ T.objs.length
 free:∀ id ∈ rhoIds ρ,s1.held id = false
theorem packT_sound {s:St} (hr:Rel w0 Φ0 own0 N w Φ β s a) {T:Tm} {ρ0:Rho} {vs:List SVal} {us:List Value} {q:Packed0} (hv:SVRs w Φ β s.heap vs us) (h:packT T ρ0 vs s = some q) :
  ∃ Φ1 β1,PackR w0 Φ0 own0 N w Φ β s a T ρ0 us q.ds q.ρ q.s Φ1 β1:=by
 unfold packT at h
 obtain ⟨β1,g1,g2,g3⟩:=prepSls_sound (objs:=T.objs) (sts:=T.slots) (p:={ s:=s,ρ:=ρ0 }) hr (fun id h => by cases h) hv
 generalize hps:prepSls T.objs T.slots vs { s:=s,ρ:=ρ0 } = ps at *
 obtain ⟨vs',p0⟩:=ps
 simp only at h g1 g2 g3
 obtain ⟨β2,k1,k2,k3,k4,k5⟩:=prepObs_sound (objs:=T.objs) (l:=T.objs) (k:=0) g1 (g2.gh (fun id h => by cases h))
 generalize hp:prepObs T.objs 0 T.objs p0 = p at *
 obtain ⟨Φ3,l1,l2,l3,l4⟩:=frzs_sound (ids:=p.f) k1
 generalize hs1:frzs p.f p.s = s1 at *
 split at h
 case h_2 => cases h
 rename_i x y hx hy
 obtain ⟨hb,h⟩:=cond_none h
 cases h
 simp only [and_eq_true] at hb
 have hv':=SVRs_mono (k2.trans l2) g3
 obtain ⟨m1,m2,m3⟩:=ext_inst l1.hp hv' hx hy (nodupB_spec hb.1) (Nat.le_of_ble_eq_true hb.2.2)
 exact ⟨Φ3,β2,⟨l1,m1,m2,m3,(g2.mono.trans k2).trans l2,by rw [l3,k3,g2.env],by rw [l4,k4,g2.hold],fun k id hk => k5 k id (g2.rho k id hk),nodupB_spec hb.1,Nat.le_of_ble_eq_true hb.2.2,freeB_spec hb.2.1⟩⟩
theorem packD_sound {s s1:St} (hr:Rel w0 Φ0 own0 N w Φ β s a) {T:Tm} {ρ0 ρ:Rho} {vs:List SVal} {us:List Value} {d:T.ct.denote} (hv:SVRs w Φ β s.heap vs us) (h:packD T ρ0 vs s = some (d,ρ,s1)) :
  ∃ Φ1 β1,PackR w0 Φ0 own0 N w Φ β s a T ρ0 us (fromD T.cts d) ρ s1 Φ1 β1:=by
 unfold packD at h
 split at h
 case h_2 => cases h
 rename_i q hq
 split at h
 case h_2 => cases h
 rename_i d' hd
 cases h
 rw [toD_from hd]
 exact packT_sound hr hv hq
end
def Stays (T:Tm) (k:Nat):Prop:=∃ o,nth T.objs k = some (true,o)
structure PostR (w:World) (Φ:Nat → Prop) (γ:Loc) (T:Tm) (ds:List Dyn) (w':World) (Φ':Nat → Prop) (γ':Loc) (T':Tm) (ds':List Dyn):Prop where
 same:Same w (OwnH w γ (T.heap ds)) w'
 mem:∀ b,OwnH w' γ' (T'.heap ds') b → OwnH w γ (T.heap ds) b ∨ w.heap.size ≤ b
 sub:∀ b,Φ b → Φ' b
 fro:∀ b,Φ' b → Φ b ∨ OwnH w γ (T.heap ds) b ∨ w.heap.size ≤ b
 keep:∀ k,Stays T k → Kept w γ (T.heap ds) w' γ' (T'.heap ds') k
section
variable {w0:World} {Φ0 own0:Nat → Prop} {N:Frm} {w w':World} {Φ Φ' Φ1:Nat → Prop} {β β1 γ γ':Loc} {s s1:St} {a:Act} {hp hp':List (Nat × SObj)} {f:Nat → Nat}
theorem IdsR_ren (h:∀ k x,γ k = some x → β (f k) = some x):∀ (l:List (Option Nat)) (vs:List Value),IdsR γ l vs → IdsR β (renIds f l) vs
 | [],_,g => g
 | none :: r,_,⟨v,vs',e,g1,g2⟩ => ⟨v,vs',e,g1,IdsR_ren h r vs' g2⟩
 | some id :: r,_,⟨v,vs',e,⟨b,g1,g3⟩,g2⟩ => ⟨v,vs',e,⟨b,h _ _ g1,g3⟩,IdsR_ren h r vs' g2⟩
theorem LfR_ren (h:∀ k x,γ k = some x → β (f k) = some x) (hr:∀ k r,rowOf (look hp (f k)) = some r → rowOf (look hp' k) = some r):∀ (l:Leaf) (v:Value),LfR w Φ γ hp' l v → LfR w Φ β hp (renL f l) v
 | .undef,_,g => g
 | .int _ _,_,g => g
 | .bool _,_,g => g
 | .str _,_,g => g
 | .list _ _,_,g => g
 | .clist _ _,_,g => g
 | .nils,_,g => g
 | .ptr id off,v,⟨b,h1,h2⟩ => ⟨b,h _ _ h1,h2⟩
 | .eptr id i off,v,⟨loc,h1,hp,h2⟩ => ⟨loc,h _ _ h1,hp,fun sz n hrw => h2 sz n (hr _ _ hrw)⟩
 | .vptr _ _ _,_,g => g
 | .sl id r,v,⟨loc,h1,hs,h2⟩ => ⟨loc,h _ _ h1,hs,fun sz n hrw => h2 sz n (hr _ _ hrw)⟩
 | .fn g xs ys,v,⟨us,vs,h1,h2,h3⟩ => ⟨us,vs,h1,IdsR_ren h _ _ h2,IdsR_ren h _ _ h3⟩
 | .ifp t id off,v,⟨b,h1,h2⟩ => ⟨b,h _ _ h1,h2⟩
 | .ifi _ _ _,_,g => g
 | .mp id,v,⟨b,h1,h2⟩ => ⟨b,h _ _ h1,h2⟩
 | .nilp,_,g => g
 | .nilf,_,g => g
 | .nili,_,g => g
 | .nilm,_,g => g
 | .anyb,_,g => g
theorem LfRs_ren (h:∀ k x,γ k = some x → β (f k) = some x) (hr:∀ k r,rowOf (look hp (f k)) = some r → rowOf (look hp' k) = some r):∀ (l:List Leaf) (v:List Value),LfRs w Φ γ hp' l v → LfRs w Φ β hp (renLs f l) v
 | [],_,g => g
 | l :: ls,_,⟨v,vs',e,h1,h2⟩ => ⟨v,vs',e,LfR_ren h hr l v h1,LfRs_ren h hr ls vs' h2⟩
theorem SVR_ren (h:∀ k x,γ k = some x → β (f k) = some x) (hr:∀ k r,rowOf (look hp (f k)) = some r → rowOf (look hp' k) = some r) (x:SVal) (v:Value) (hx:∀ ps,x ≠ .tup ps) (g:SVR w Φ γ hp' x v):SVR w Φ β hp (renV f x) v:=by
 cases x with
 | one l => exact LfR_ren h hr l v g
 | agg cs => obtain ⟨vs,e,g⟩:=g; exact ⟨vs,e,LfRs_ren h hr _ _ g⟩
 | tup ps => exact absurd rfl (hx ps)
 | skip => exact g
theorem inst_no_tup:∀ {sts:List SlT} {ds:List Dyn} (v:SVal),v ∈ (instSls sts ds).1 → ∀ ps,v ≠ .tup ps
 | [],ds,v,h => by simp [instSls] at h
 | st :: r,ds,v,h => by
   simp only [instSls,List.mem_cons] at h
   rcases h with h | h
   · subst h
     cases st <;> intro ps e <;> simp [instSl] at e
   · exact inst_no_tup v h
theorem SVRs_ren (h:∀ k x,γ k = some x → β (f k) = some x) (hr:∀ k r,rowOf (look hp (f k)) = some r → rowOf (look hp' k) = some r):∀ (x:List SVal) (v:List Value),(∀ y ∈ x,∀ ps,y ≠ .tup ps) → SVRs w Φ γ hp' x v → SVRs w Φ β hp (renVs f x) v
 | [],_,_,g => g
 | l :: ls,_,hx,⟨v,vs',e,h1,h2⟩ => ⟨v,vs',e,SVR_ren h hr l v (hx l (by simp)) h1,SVRs_ren h hr ls vs' (fun y hy => hx y (List.mem_cons_of_mem _ hy)) h2⟩
theorem renLs_len:∀ (l:List Leaf),(renLs f l).length = l.length
 | [] => rfl
 | _ :: l => by simp [renLs,renLs_len l]
theorem renO_row (o:SObj):rowOf (some (renO f o)) = rowOf (some o):=by cases o <;> simp [renO,rowOf,renLs_len]
theorem renO_rows {o:SObj} (h:(renO f o).isRows = true):renO f o = o:=by cases o <;> first | rfl | cases h
theorem renO_owned (o:SObj):(renO f o).owned = o.owned:=by cases o <;> rfl
theorem look_app {α:Type}:∀ (l m:List (Nat × α)) (k:Nat),look (l ++ m) k = (match look l k with
  | some x => some x
  | none => look m k)
 | [],m,k => rfl
 | (j,x) :: l,m,k => by
   simp only [List.cons_append,look_cons]
   by_cases h:j = k
   · simp only [if_pos h]
   · simp only [if_neg h]
     exact look_app l m k
theorem look_mem {α:Type}:∀ {l:List (Nat × α)} {k:Nat} {x:α},look l k = some x → (k,x) ∈ l
 | [],k,x,h => by cases h
 | (j,y) :: l,k,x,h => by
   rw [look_cons] at h
   split at h
   · rename_i e; subst e; cases h; simp
   · exact List.mem_cons_of_mem _ (look_mem h)
theorem look_renH:∀ {hp:List (Nat × SObj)} {k:Nat} {o:SObj},(∀ j ∈ hp.map (·.1),f j = f k → j = k) → look hp k = some o → look (renH f hp) (f k) = some (renO f o)
 | [],k,o,_,h => by cases h
 | (j,x) :: l,k,o,hinj,h => by
   rw [look_cons] at h
   simp only [renH,look_cons]
   split at h
   · rename_i e; subst e; cases h; rw [if_pos rfl]
   · rename_i e
     rw [if_neg (fun e' => e (hinj j (by simp) e'))]
     exact look_renH (fun i hi => hinj i (by simp at hi ⊢; exact .inr hi)) h
theorem look_renH_inv:∀ {hp:List (Nat × SObj)} {id:Nat} {o2:SObj},(∀ i ∈ hp.map (·.1),∀ j ∈ hp.map (·.1),f i = f j → i = j) → look (renH f hp) id = some o2 → ∃ k o,look hp k = some o ∧ f k = id ∧ o2 = renO f o
 | [],id,o2,_,h => by cases h
 | (j,x) :: l,id,o2,hinj,h => by
   simp only [renH,look_cons] at h
   split at h
   · rename_i e; cases h; exact ⟨j,x,by simp [look_cons],e,rfl⟩
   · rename_i e
     obtain ⟨k,o,h1,h2,h3⟩:=look_renH_inv (fun a ha b hb => hinj a (by simp at ha ⊢; exact .inr ha) b (by simp at hb ⊢; exact .inr hb)) h
     refine ⟨k,o,?_,h2,h3⟩
     rw [look_cons,if_neg (fun e' => by subst e'; exact e h2)]
     exact h1
theorem look_deads:∀ {l:List Nat} {id:Nat},look (deads l) id = if id ∈ l then some .dead else none
 | [],id => by simp [deads,look]
 | x :: r,id => by
   simp only [deads,look_cons]
   by_cases e:x = id
   · subst e; simp
   · rw [if_neg e,look_deads]
     by_cases h:id ∈ r
     · rw [if_pos h,if_pos (List.mem_cons_of_mem _ h)]
     · rw [if_neg h,if_neg (by simp; exact ⟨fun e' => e e'.symm,h⟩)]
theorem instObs_look:∀ {objs:List (Bool × ObT)} {k j:Nat} {ds:List Dyn},k ≤ j → j < k + objs.length → ∃ o,look (instObs k objs ds).1 j = some o
 | [],k,j,ds,h1,h2 => by simp at h2; omega
 | o :: r,k,j,ds,h1,h2 => by
   simp only [instObs,look_cons]
   split
   · exact ⟨_,rfl⟩
   · exact instObs_look (by omega) (by simp at h2; omega)
theorem ObR_loc {ob:SObj} {id:Nat} (h:ObR w Φ β hp id ob) (ho:ob.owned = true):∃ x,β id = some x:=by
 cases ob with
 | dead => cases ho
 | box cs => obtain ⟨b,_,h1,_⟩:=h; exact ⟨_,h1⟩
 | cells cs => obtain ⟨b,_,h1,_⟩:=h; exact ⟨_,h1⟩
 | arr e l => rcases h with ⟨h1,_⟩ | ⟨b,o,h1,_⟩ <;> exact ⟨_,h1⟩
 | frz e l => cases ho
 | map _ _ _ _ => obtain ⟨b,_,_,h1,_⟩:=h; exact ⟨_,h1⟩
 | mrows _ _ _ _ => obtain ⟨b,_,_,h1,_⟩:=h; exact ⟨_,h1⟩
 | rows _ _ _ => obtain ⟨b,_,_,h1,_⟩:=h; exact ⟨_,h1⟩
 | zip _ _ _ _ => obtain ⟨b,_,_,h1,_⟩:=h; exact ⟨_,h1⟩
theorem ObR_notΦ {ob:SObj} {id b p:Nat} (h:ObR w Φ β hp id ob) (ho:ob.owned = true) (hb:β id = some (some (b,p))):¬ Φ b:=by
 cases ob with
 | dead => cases ho
 | box cs => obtain ⟨b',_,h1,h2,_⟩:=h; rw [hb] at h1; cases h1; exact h2
 | cells cs => obtain ⟨b',_,h1,h2,_⟩:=h; rw [hb] at h1; cases h1; exact h2
 | arr e l =>
   rcases h with ⟨h1,_⟩ | ⟨b',o,h1,h2,_⟩
   · rw [hb] at h1; cases h1
   · rw [hb] at h1; cases h1; exact h2
 | frz e l => cases ho
 | map _ _ _ _ => obtain ⟨b',_,_,h1,h2,_⟩:=h; rw [hb] at h1; cases h1; exact h2
 | mrows _ _ _ _ => obtain ⟨b',_,_,h1,h2,_⟩:=h; rw [hb] at h1; cases h1; exact h2
 | rows _ _ _ => obtain ⟨b',_,_,h1,h2,_⟩:=h; rw [hb] at h1; cases h1; exact h2
 | zip _ _ _ _ => obtain ⟨b',_,_,h1,h2,_⟩:=h; rw [hb] at h1; cases h1; exact h2
theorem ObR_ren (h:∀ k x,γ k = some x → β (f k) = some x) (hr:∀ k r,rowOf (look hp (f k)) = some r → rowOf (look hp' k) = some r) {k:Nat} {o:SObj} (g:ObR w Φ γ hp' k o):ObR w Φ β hp (f k) (renO f o):=by
 cases o with
 | dead => trivial
 | box cs => obtain ⟨b,vs,h1,h2,h3,h4,h5⟩:=g; exact ⟨b,vs,h _ _ h1,h2,h3,h4,LfRs_ren h hr _ _ h5⟩
 | cells cs => obtain ⟨b,vs,h1,h2,h3,h4,h5⟩:=g; exact ⟨b,vs,h _ _ h1,h2,h3,h4,LfRs_ren h hr _ _ h5⟩
 | arr e l =>
   rcases g with ⟨h1,h2⟩ | ⟨b,o,h1,h2⟩
   · exact .inl ⟨h _ _ h1,h2⟩
   · exact .inr ⟨b,o,h _ _ h1,h2⟩
 | frz e l =>
   rcases g with ⟨h1,h2⟩ | ⟨b,o,h1,h2⟩
   · exact .inl ⟨h _ _ h1,h2⟩
   · exact .inr ⟨b,o,h _ _ h1,h2⟩
 | map _ _ _ _ => obtain ⟨b,es,cl,h1,h2⟩:=g; exact ⟨b,es,cl,h _ _ h1,h2⟩
 | mrows _ _ _ _ => obtain ⟨b,es,cl,h1,h2⟩:=g; exact ⟨b,es,cl,h _ _ h1,h2⟩
 | rows _ _ _ => obtain ⟨b,o,hs,h1,h2⟩:=g; exact ⟨b,o,hs,h _ _ h1,h2⟩
 | zip _ _ _ _ => obtain ⟨b,o,vs,h1,h2,h3,h4,h5,h6,h7,h8⟩:=g; exact ⟨b,o,vs,h _ _ h1,h2,h3,h4,h5,LfRs_ren h hr _ _ h6,h7,h8⟩
theorem noGone_spec:∀ {objs:List (Bool × ObT)} {k:Nat} {bo:Bool × ObT},noGone objs = true → objs[k]? = some bo → bo.2 ≠ .gone
 | [],k,bo,_,h => by simp at h
 | o :: r,0,bo,hn,h => by
   simp at h; subst h
   obtain ⟨x,y⟩:=o
   cases y <;> simp [noGone] at hn ⊢
 | o :: r,k + 1,bo,hn,h => by
   refine noGone_spec (objs:=r) (k:=k) ?_ (by simpa using h)
   obtain ⟨x,y⟩:=o
   cases y <;> simp [noGone] at hn ⊢ <;> exact hn
theorem backId_stays {objs:List (Bool × ObT)} {ρ:Rho} {nx k id:Nat} {o:ObT} (h:nth objs k = some (true,o)) (hid:ρ.at k = some id):backId objs ρ nx k = id:=by
 unfold backId; rw [h]; simp only [hid]
theorem backId_new {T:Tm} {ρ:Rho} {nx k:Nat} (h:¬ Stays T k):backId T.objs ρ nx k = nx + k:=by
 unfold backId
 split
 · rename_i o ho; exact absurd ⟨o,ho⟩ h
 · rfl
theorem Rel.back {T T':Tm} {ρ0 ρ:Rho} {us rs:List Value} {ds ds':List Dyn} (hp:PackR w0 Φ0 own0 N w Φ β s a T ρ0 us ds ρ s1 Φ1 β1) (hng:noGone T.objs = true) (hi:InstR w' Φ' T' ds' rs γ')
  (hpost:PostR w Φ1 (fun k => (ρ.at k).bind β1) T ds w' Φ' γ' T' ds') :
  ∃ β',Rel w0 Φ0 own0 N w' Φ' β' (backSt T ρ T' ds' s1) a ∧ Mono w Φ1 β1 s1.heap w' Φ' β' (backSt T ρ T' ds' s1).heap ∧ SVRs w' Φ' β' (backSt T ρ T' ds' s1).heap (backVals T ρ T' ds' s1) rs:=by
 have hr:=hp.rel
 have ent:∀ k,k < T.objs.length → ∃ o' id ob,look (T.heap ds) k = some o' ∧ ρ.at k = some id ∧ look s1.heap id = some ob ∧ ob.owned = true ∧ o'.owned = true:=by
  intro k hk
  obtain ⟨o',ho'⟩:=instObs_look (objs:=T.objs) (k:=0) (j:=k) (ds:=ds) (by omega) (by omega)
  obtain ⟨_,bo,h2,h3⟩:=hp.obj k o' ho'
  rcases h3 with ⟨h3,_⟩ | ⟨id,ob,h3,h4,h5,h6⟩
  · exact absurd h3 (noGone_spec hng h2)
  · exact ⟨o',id,ob,ho',h3,h4,h5,h6.1⟩
 have stl:∀ k,Stays T k → k < T.objs.length:=by
  rintro k ⟨o,ho⟩
  rw [nth_getElem?] at ho
  exact (List.getElem?_eq_some_iff.1 ho).1
 have hB:∀ b,OwnH w (fun k => (ρ.at k).bind β1) (T.heap ds) b → ∃ k id ob,ρ.at k = some id ∧ look s1.heap id = some ob ∧ ob.owned = true ∧ s1.held id = false ∧ ((∃ p,β1 id = some (some (b,p))) ∨ RowB w β1 id ob b):=by
  rintro b (⟨k,o',p,h1,h2,h3⟩ | ⟨k,o',h1,h2⟩)
  · obtain ⟨hk,_⟩:=hp.obj k o' h1
    obtain ⟨_,id,ob,_,h5,h6,h7,_⟩:=ent k hk
    exact ⟨k,id,ob,h5,h6,h7,hp.free id (rho_mem h5),.inl ⟨p,by simpa [h5] using h3⟩⟩
  · obtain ⟨hk,bo,_,hc⟩:=hp.obj k o' h1
    rcases hc with ⟨_,hd⟩ | ⟨id,ob,h5,h6,h7,h8,h9⟩
    · subst hd; exact absurd h2 (RowB_none rfl)
    · cases hir:o'.isRows with
      | false => exact absurd h2 (RowB_none hir)
      | true =>
        have:=h9 hir
        subst this
        exact ⟨k,id,_,h5,h6,h7,hp.free id (rho_mem h5),.inr (RowB_of (w:=w) (w':=w) (by simp [h5]) (fun _ _ _ => rfl) h2)⟩
 have hBown:∀ b,OwnH w (fun k => (ρ.at k).bind β1) (T.heap ds) b → own0 b ∨ w0.heap.size ≤ b:=by
  intro b hb
  obtain ⟨k,id,ob,h1,h2,h3,h5,h4⟩:=hB b hb
  rcases h4 with ⟨p,h4⟩ | h4
  · exact hr.mine h5 h2 h3 h4
  · exact hr.rown id ob b h2 h4
 have hBΦ:∀ b,Φ1 b → ¬ OwnH w (fun k => (ρ.at k).bind β1) (T.heap ds) b:=by
  intro b hΦ hb
  obtain ⟨k,id,ob,h1,h2,h3,h5,h4⟩:=hB b hb
  rcases h4 with ⟨p,h4⟩ | h4
  · exact ObR_notΦ (hr.hp.ob id ob h2) h3 h4 hΦ
  · exact (hr.hp.rin id ob b h2 h4).1 hΦ
 have notM:∀ id ob b p,look s1.heap id = some ob → id ∉ rhoIds ρ → ob.owned = true → β1 id = some (some (b,p)) → ¬ OwnH w (fun k => (ρ.at k).bind β1) (T.heap ds) b:=by
  intro id ob b p hl hm ho hb hO
  obtain ⟨k,id',ob',g1,g2,g3,g5,g4⟩:=hB b hO
  rcases g4 with ⟨q,g4⟩ | g4
  · have:=hr.hp.inj id id' ob ob' b p q hl g2 ho g3 hb g4
    subst this
    exact hm (rho_mem g1)
  · exact (hr.hp.rin id' ob' b g2 g4).2.2 id ob p hl ho hb
 have notR:∀ id ob c,look s1.heap id = some ob → id ∉ rhoIds ρ → RowB w β1 id ob c → ¬ OwnH w (fun k => (ρ.at k).bind β1) (T.heap ds) c:=by
  intro id ob c hl hm hc hO
  obtain ⟨k,id',ob',g1,g2,g3,g5,g4⟩:=hB c hO
  rcases g4 with ⟨q,g4⟩ | g4
  · exact (hr.hp.rin id ob c hl hc).2.2 id' ob' q g2 g3 g4
  · have:=hr.hp.rinj id id' ob ob' c hl g2 hc g4
    subst this
    exact hm (rho_mem g1)
 have hfrz:∀ b,Φ1 b → w'.heap[b]? = w.heap[b]?:=fun b hb => hpost.same.block b (hr.hp.flt b hb) (hBΦ b hb)
 have fst':∀ k,Stays T k → ∃ id,ρ.at k = some id ∧ backId T.objs ρ s1.next k = id ∧ id < s1.next ∧ β1 id = γ' k ∧ ∃ x,β1 id = some x:=by
  intro k hk
  obtain ⟨o',id,ob,h1,h2,h3,h4,h5⟩:=ent k (stl k hk)
  obtain ⟨x,hx⟩:=ObR_loc (hr.hp.ob id ob h3) h4
  obtain ⟨o,ho⟩:=hk
  refine ⟨id,h2,backId_stays ho h2,hr.hp.hlt id ob h3,?_,x,hx⟩
  have:=(hpost.keep k ⟨o,ho⟩).loc x (by simp [h2,hx])
  rw [this,hx]
 have fnew:∀ k,¬ Stays T k → backId T.objs ρ s1.next k = s1.next + k:=fun k hk => backId_new hk
 have finj:∀ i j,backId T.objs ρ s1.next i = backId T.objs ρ s1.next j → i = j:=by
  intro i j hij
  by_cases hi':Stays T i <;> by_cases hj':Stays T j
  · obtain ⟨id,h1,h2,_⟩:=fst' i hi'
    obtain ⟨id',k1,k2,_⟩:=fst' j hj'
    rw [h2,k2] at hij
    subst hij
    exact rho_inj hp.nodup h1 k1
  · obtain ⟨id,h1,h2,h3,_⟩:=fst' i hi'
    rw [h2,fnew j hj'] at hij; omega
  · obtain ⟨id,h1,h2,h3,_⟩:=fst' j hj'
    rw [h2,fnew i hi'] at hij; omega
  · rw [fnew i hi',fnew j hj'] at hij; omega
 let f:Nat → Nat:=backId T.objs ρ s1.next
 let β':Loc:=fun id => if id < s1.next then β1 id else if (nth T.objs (id - s1.next)).any (·.1) then none else γ' (id - s1.next)
 have hold':∀ id,id < s1.next → β' id = β1 id:=fun id h => by simp only [β']; rw [if_pos h]
 have hnotany:∀ k,¬ Stays T k → (nth T.objs k).any (·.1) = false:=by
  intro k hk
  cases hn:nth T.objs k with
  | none => rfl
  | some bo =>
    obtain ⟨b,o⟩:=bo
    cases b with
    | false => rfl
    | true => exact absurd ⟨o,hn⟩ hk
 have hany:∀ k,(nth T.objs k).any (·.1) = false → ¬ Stays T k:=by
  rintro k h ⟨o,ho⟩
  rw [ho] at h; cases h
 have hnew':∀ k,¬ Stays T k → β' (s1.next + k) = γ' k:=fun k hk => by
  simp only [β']
  rw [if_neg (by omega),Nat.add_sub_cancel_left,hnotany k hk]
  rfl
 have hβf:∀ k,β' (f k) = γ' k:=by
  intro k
  by_cases hk:Stays T k
  · obtain ⟨id,h1,h2,h3,h4,_⟩:=fst' k hk
    show β' (backId T.objs ρ s1.next k) = _
    rw [h2,hold' id h3,h4]
  · show β' (backId T.objs ρ s1.next k) = _
    rw [fnew k hk,hnew' k hk]
 have hkeys:∀ i ∈ (T'.heap ds').map (·.1),∀ j ∈ (T'.heap ds').map (·.1),f i = f j → i = j:=fun i _ j _ h => finj i j h
 let hp2:=(backSt T ρ T' ds' s1).heap
 have hp2e:hp2 = renH f (T'.heap ds') ++ (deads (rhoIds ρ) ++ s1.heap):=rfl
 have cases2:∀ id o2,look hp2 id = some o2 → (∃ k o,look (T'.heap ds') k = some o ∧ f k = id ∧ o2 = renO f o) ∨ o2 = .dead ∨ (look s1.heap id = some o2 ∧ id ∉ rhoIds ρ):=by
  intro id o2 h
  rw [hp2e,look_app] at h
  split at h
  · rename_i x hx
    cases h
    exact .inl (look_renH_inv hkeys hx)
  · rw [look_app,look_deads] at h
    by_cases hm:id ∈ rhoIds ρ
    · rw [if_pos hm] at h; cases h; exact .inr (.inl rfl)
    · rw [if_neg hm] at h; exact .inr (.inr ⟨h,hm⟩)
 have lookf:∀ k o,look (T'.heap ds') k = some o → look hp2 (f k) = some (renO f o):=by
  intro k o h
  rw [hp2e,look_app,look_renH (fun j _ e => finj j k e) h]
 have hrow2:∀ k r,rowOf (look hp2 (f k)) = some r → rowOf (look (T'.heap ds') k) = some r:=by
  intro k r hrw
  cases hl:look hp2 (f k) with
  | none => rw [hl] at hrw; cases hrw
  | some o2 =>
    rw [hl] at hrw
    rcases cases2 _ _ hl with ⟨k',o,h1,h2,h3⟩ | h | ⟨h1,h2⟩
    · have:=finj k' k h2
      subst this
      rw [h3,renO_row] at hrw
      rw [h1]; exact hrw
    · subst h; cases hrw
    · exfalso
      by_cases hk:Stays T k
      · obtain ⟨id,g1,g2,_⟩:=fst' k hk
        have:f k = id:=g2
        rw [this] at h2
        exact h2 (rho_mem g1)
      · have:f k = s1.next + k:=fnew k hk
        rw [this] at h1
        have:=hr.hp.hlt _ _ h1; omega
 have apart:∀ id ob,look s1.heap id = some ob → id ∉ rhoIds ρ → ∀ b p,β1 id = some (some (b,p)) → ob.owned = true ∨ (∃ e l,ob = .frz e l) → w'.heap[b]? = w.heap[b]?:=by
  intro id ob hl hm b p hb ho
  refine hpost.same.block b (hr.hp.blt _ _ _ hb) fun hB' => ?_
  rcases ho with ho | ⟨e,l,rfl⟩
  · exact notM id ob b p hl hm ho hb hB'
  · rcases hr.hp.ob id _ hl with ⟨k1,_⟩ | ⟨b',o',k1,k2,_⟩
    · rw [hb] at k1; cases k1
    · rw [hb] at k1; cases k1
      exact hBΦ _ k2 hB'
 have apartR:∀ id ob,look s1.heap id = some ob → id ∉ rhoIds ρ → ∀ c,RowB w β1 id ob c → w'.heap[c]? = w.heap[c]? ∧ (¬ Φ1 c → ¬ Φ' c):=by
  intro id ob hl hm c hc
  have h2:=notR id ob c hl hm hc
  obtain ⟨k1,k2,_⟩:=hr.hp.rin id ob c hl hc
  refine ⟨hpost.same.block c k2 h2,fun hn hn' => ?_⟩
  rcases hpost.fro c hn' with g | g | g
  · exact hn g
  · exact h2 g
  · omega
 have m:Mono w Φ1 β1 s1.heap w' Φ' β' hp2:=by
  refine ⟨hfrz,hpost.sub,fun id x hx => by rw [hold' id (hr.hp.lt id x hx)]; exact hx,?_,?_⟩
  · intro id x hx r hrw
    cases hl:look hp2 id with
    | none => rw [hl] at hrw; cases hrw
    | some o2 =>
      rw [hl] at hrw
      rcases cases2 _ _ hl with ⟨k,o,h1,h2,h3⟩ | h | ⟨h1,_⟩
      · by_cases hk:Stays T k
        · obtain ⟨id',g1,g2,g3,g4,x',g5⟩:=fst' k hk
          have:f k = id':=g2
          rw [h2] at this; subst this
          rw [h3,renO_row] at hrw
          exact hp.row k id g1 r ((hpost.keep k hk).row x' (by simp [g1,g5]) r (by rw [h1]; exact hrw))
        · have:f k = s1.next + k:=fnew k hk
          have:=hr.hp.lt id x hx; omega
      · subst h; cases hrw
      · rw [h1]; exact hrw
  · intro id b o r hb hrw
    cases hl:look hp2 id with
    | none => rw [hl] at hrw; cases hrw
    | some o2 =>
      rw [hl] at hrw
      rcases cases2 _ _ hl with ⟨k,o',h1,h2,h3⟩ | h | ⟨h1,h2⟩
      · by_cases hk:Stays T k
        · obtain ⟨id',g1,g2,g3,g4,_⟩:=fst' k hk
          have:f k = id':=g2
          rw [h2] at this; subst this
          rw [h3,renO_row] at hrw
          exact (hpost.keep k hk).bs b o r (by simp [g1,hb]) (by rw [h1]; exact hrw)
        · have:f k = s1.next + k:=fnew k hk
          have:=hr.hp.lt id _ hb; omega
      · subst h; cases hrw
      · have:o2.owned = true ∨ ∃ e l,o2 = .frz e l:=by
         cases o2 with
         | dead => cases hrw
         | box cs => exact .inl rfl
         | cells cs => exact .inl rfl
         | arr e l => exact .inl rfl
         | frz e l => exact .inr ⟨e,l,rfl⟩
         | map _ _ _ _ => exact .inl rfl
         | rows _ _ _ => exact .inl rfl
         | mrows _ _ _ _ => exact .inl rfl
         | zip _ _ _ _ => exact .inl rfl
        unfold blockSize
        rw [apart id o2 h1 h2 b o hb this]
 have hloc:∀ k x,γ' k = some x → β' (f k) = some x:=fun k x h => by rw [hβf]; exact h
 have hrl2:∀ id o2 c,look hp2 id = some o2 → RowB w' β' id o2 c → (∃ k o,look (T'.heap ds') k = some o ∧ f k = id ∧ RowB w' γ' k o c) ∨ (look s1.heap id = some o2 ∧ id ∉ rhoIds ρ ∧ RowB w β1 id o2 c):=by
  intro id o2 c hl hc
  rcases cases2 _ _ hl with ⟨k,o,h1,h2,h3⟩ | h | ⟨h1,h2⟩
  · subst h2; subst h3
    cases hir:(renO f o).isRows with
    | false => exact absurd hc (RowB_none hir)
    | true =>
      rw [renO_rows hir] at hc
      exact .inl ⟨k,o,h1,rfl,RowB_of (w:=w') (w':=w') (hβf k) (fun _ _ _ => rfl) hc⟩
  · subst h; exact absurd hc (RowB_none rfl)
  · cases hir:o2.isRows with
    | false => exact absurd hc (RowB_none hir)
    | true =>
      have ho:o2.owned = true:=by cases o2 <;> first | rfl | cases hir
      exact .inr ⟨h1,h2,RowB_of (w:=w) (hold' id (hr.hp.hlt _ _ h1)) (fun b p hb => apart id o2 h1 h2 b p hb (.inl ho)) hc⟩
 have hdef:DgR N.mlo N.grd w' Φ' a.defers:=hr.defers.mono (fun d x hx h1 h2 => by
  have hlt:d < w.heap.size:=(Array.getElem?_eq_some_iff.1 h1).1
  have hno:¬ OwnH w (fun k => (ρ.at k).bind β1) (T.heap ds) d:=fun g => by
   obtain ⟨k,id,ob,_,g2,g3,_,g5⟩:=hB d g
   rcases g5 with ⟨p,g5⟩ | g5
   · exact ObR.off hx (hr.hp.ob id ob g2) g3 g5 h1
   · exact RowB.off hx (hr.hp.ob id ob g2) g5 h1
  refine ⟨hpost.same.block d hlt hno,fun h3 => ?_⟩
  rcases hpost.fro d h3 with g | g | g
  · exact h2 g
  · exact hno g
  · omega)
 refine ⟨β',⟨?_,⟨?_,?_,?_,?_,?_,hi.hp.flt,?_,?_⟩,?_,?_,?_,?_,hr.size,hr.fix,hdef,?_,hr.keep' m,?_⟩,m,?_⟩
 · exact fun t v hv => SVR_mono m _ _ (hr.env t v hv)
 ·
  intro id o2 hl
  rcases cases2 _ _ hl with ⟨k,o,h1,h2,h3⟩ | h | ⟨h1,h2⟩
  · subst h2; subst h3
    exact ObR_ren hloc hrow2 (hi.hp.ob k o h1)
  · subst h; trivial
  · cases ho:o2.owned with
    | true =>
      refine ObR_mono m (fun b p hb => apart id o2 h1 h2 b p hb (.inl ho)) (fun _ b p hb hn hn' => ?_) (apartR id o2 h1 h2) (hr.hp.ob id o2 h1)
      rcases hpost.fro b hn' with g | g | g
      · exact hn g
      · exact notM id o2 b p h1 h2 ho hb g
      · exact absurd (hr.hp.blt _ _ _ hb) (by omega)
    | false =>
      cases o2 with
      | dead => trivial
      | box cs => cases ho
      | cells cs => cases ho
      | arr e l => cases ho
      | map _ _ _ _ => cases ho
      | rows _ _ _ => cases ho
      | mrows _ _ _ _ => cases ho
      | zip _ _ _ _ => cases ho
      | frz e l =>
        rcases hr.hp.ob id _ h1 with ⟨g1,g2⟩ | ⟨b,p,g1,g2,g3⟩
        · exact .inl ⟨m.loc _ _ g1,g2⟩
        · exact .inr ⟨b,p,m.loc _ _ g1,hpost.sub b g2,RowAt_mono m (hfrz b g2) g3⟩
 · intro id x hx
   show id < s1.next + T'.objs.length
   by_cases h:id < s1.next
   · omega
   · have hx':=hx
     simp only [β'] at hx
     rw [if_neg h] at hx
     cases hc:(nth T.objs (id - s1.next)).any (·.1) with
     | true => rw [hc] at hx; cases hx
     | false =>
       rw [hc] at hx
       have:=hi.hp.lt (id - s1.next) x (by simpa using hx)
       simp only at this
       omega
 · intro id o2 hl
   show id < s1.next + T'.objs.length
   rcases cases2 _ _ hl with ⟨k,o,h1,h2,h3⟩ | h | ⟨h1,_⟩
   · by_cases hk:Stays T k
     · obtain ⟨id',g1,g2,g3,_⟩:=fst' k hk
       have:f k = id':=g2
       omega
     · have e:f k = s1.next + k:=fnew k hk
       have:=hi.hp.hlt k o h1
       simp only at this
       omega
   ·
    subst h
    replace hl:look hp2 id = some .dead:=hl
    rw [hp2e,look_app] at hl
    split at hl
    · rename_i x hx
      obtain ⟨k,o,h1,h2,h3⟩:=look_renH_inv hkeys hx
      by_cases hk:Stays T k
      · obtain ⟨id',g1,g2,g3,_⟩:=fst' k hk
        have:f k = id':=g2
        omega
      · have e:f k = s1.next + k:=fnew k hk
        have:=hi.hp.hlt k o h1
        simp only at this
        omega
    · rw [look_app,look_deads] at hl
      by_cases hm:id ∈ rhoIds ρ
      · obtain ⟨k,hk⟩:=rho_of_mem hm
        have hkl:k < T.objs.length:=by
         have:=hp.inst.hp.lt k
         rcases Nat.lt_or_ge k T.objs.length with g | g
         · exact g
         · exfalso
           have hlen:=hp.len
           exact absurd (rho_lt hk) (by omega)
        obtain ⟨_,id',ob,_,h5,h6,_⟩:=ent k hkl
        rw [hk] at h5; cases h5
        have:=hr.hp.hlt _ _ h6
        omega
      · rw [if_neg hm] at hl
        have:=hr.hp.hlt _ _ hl
        omega
   · have:=hr.hp.hlt _ _ h1
     omega
 ·
  intro i j o o2 b p q h1 h2 ho1 ho2 hb hb'
  have cross:∀ {k:Nat} {ok:SObj} {id:Nat} {ob:SObj} {b p q:Nat},look (T'.heap ds') k = some ok → ok.owned = true → γ' k = some (some (b,p)) → look s1.heap id = some ob → id ∉ rhoIds ρ → ob.owned = true → β1 id = some (some (b,q)) → False:=by
   intro k ok id ob b p q g1 g2 g3 g4 g5 g6 g7
   rcases hpost.mem b (.inl ⟨k,ok,p,g1,g2,g3⟩) with g | g
   · exact notM id ob b q g4 g5 g6 g7 g
   · have:=hr.hp.blt _ _ _ g7; omega
  rcases cases2 _ _ h1 with ⟨k,ok,e1,e2,e3⟩ | h | ⟨e1,e2⟩
  · subst e3
    rw [renO_owned] at ho1
    subst e2
    rw [hβf] at hb
    rcases cases2 _ _ h2 with ⟨k',ok',e1',e2',e3'⟩ | h | ⟨e1',e2'⟩
    · subst e3'
      rw [renO_owned] at ho2
      subst e2'
      rw [hβf] at hb'
      rw [hi.hp.inj k k' ok ok' b p q e1 e1' ho1 ho2 hb hb']
    · subst h; cases ho2
    · rw [hold' j (hr.hp.hlt _ _ e1')] at hb'
      exact (cross e1 ho1 hb e1' e2' ho2 hb').elim
  · subst h; cases ho1
  · rw [hold' i (hr.hp.hlt _ _ e1)] at hb
    rcases cases2 _ _ h2 with ⟨k',ok',e1',e2',e3'⟩ | h | ⟨e1',e2'⟩
    · subst e3'
      rw [renO_owned] at ho2
      subst e2'
      rw [hβf] at hb'
      exact (cross e1' ho2 hb' e1 e2 ho1 hb).elim
    · subst h; cases ho2
    · rw [hold' j (hr.hp.hlt _ _ e1')] at hb'
      exact hr.hp.inj i j o o2 b p q e1 e1' ho1 ho2 hb hb'
 · intro id b p hb
   by_cases h:id < s1.next
   · rw [hold' id h] at hb
     exact Nat.lt_of_lt_of_le (hr.hp.blt id b p hb) hpost.same.size
   · simp only [β'] at hb
     rw [if_neg h] at hb
     cases hc:(nth T.objs (id - s1.next)).any (·.1) with
     | true => rw [hc] at hb; cases hb
     | false => rw [hc] at hb; exact hi.hp.blt _ b p (by simpa using hb)
 ·
  intro id o2 c hl hc
  rcases hrl2 id o2 c hl hc with ⟨k,o,e1,e2,e3⟩ | ⟨e1,e2,e3⟩
  · obtain ⟨k1,k2,k3⟩:=hi.hp.rin k o c e1 e3
    refine ⟨k1,k2,fun id' o' p hl' ho' hb => ?_⟩
    rcases cases2 _ _ hl' with ⟨k',ok',e1',e2',e3'⟩ | h | ⟨e1',e2'⟩
    · subst e3'; subst e2'
      rw [renO_owned] at ho'
      rw [hβf] at hb
      exact k3 k' ok' p e1' ho' hb
    · subst h; cases ho'
    · rw [hold' id' (hr.hp.hlt _ _ e1')] at hb
      rcases hpost.mem c (.inr ⟨k,o,e1,e3⟩) with g | g
      · exact notM id' o' c p e1' e2' ho' hb g
      · have:=hr.hp.blt _ _ _ hb; omega
  · obtain ⟨k1,k2,k3⟩:=hr.hp.rin id o2 c e1 e3
    refine ⟨(apartR id o2 e1 e2 c e3).2 k1,Nat.lt_of_lt_of_le k2 hpost.same.size,fun id' o' p hl' ho' hb => ?_⟩
    rcases cases2 _ _ hl' with ⟨k',ok',e1',e2',e3'⟩ | h | ⟨e1',e2'⟩
    · subst e3'; subst e2'
      rw [renO_owned] at ho'
      rw [hβf] at hb
      rcases hpost.mem c (.inl ⟨k',ok',p,e1',ho',hb⟩) with g | g
      · exact notR id o2 c e1 e2 e3 g
      · omega
    · subst h; cases ho'
    · rw [hold' id' (hr.hp.hlt _ _ e1')] at hb
      exact k3 id' o' p e1' ho' hb
 · intro i j o o2 c h1 h2 hc hc'
   rcases hrl2 i o c h1 hc with ⟨k,ok,e1,e2,e3⟩ | ⟨e1,e2,e3⟩ <;> rcases hrl2 j o2 c h2 hc' with ⟨k',ok',e1',e2',e3'⟩ | ⟨e1',e2',e3'⟩
   · rw [← e2,← e2',hi.hp.rinj k k' ok ok' c e1 e1' e3 e3']
   · rcases hpost.mem c (.inr ⟨k,ok,e1,e3⟩) with g | g
     · exact absurd g (notR j o2 c e1' e2' e3')
     · have:=(hr.hp.rin j o2 c e1' e3').2.1; omega
   · rcases hpost.mem c (.inr ⟨k',ok',e1',e3'⟩) with g | g
     · exact absurd g (notR i o c e1 e2 e3)
     · have:=(hr.hp.rin i o c e1 e3).2.1; omega
   · exact hr.hp.rinj i j o o2 c e1 e1' e3 e3'
 ·
  intro id o b p hl ho hb
  rcases cases2 _ _ hl with ⟨k,ok,e1,e2,e3⟩ | h | ⟨e1,e2⟩
  · subst e3
    rw [renO_owned] at ho
    subst e2
    rw [hβf] at hb
    rcases hpost.mem b (.inl ⟨k,ok,p,e1,ho,hb⟩) with g | g
    · exact (hBown b g).elim .inl (fun g => .inr (.inl g))
    · exact .inr (.inl (Nat.le_trans hr.same.size g))
  · subst h; cases ho
  · rw [hold' id (hr.hp.hlt _ _ e1)] at hb
    exact hr.own id o b p e1 ho hb
 · refine ⟨hpost.same.os.trans hr.same.os,hpost.same.tape.trans hr.same.tape,hpost.same.output.trans hr.same.output,Nat.le_trans hr.same.size hpost.same.size,fun b hb hn => ?_⟩
   rw [hpost.same.block b (Nat.lt_of_lt_of_le hb hr.same.size) (fun hm => by rcases hBown b hm with g | g; exact hn g; omega)]
   exact hr.same.block b hb hn
 · exact fun b hb => hpost.sub b (hr.fri b hb)
 · intro b hb
   rcases hpost.fro b hb with g | g | g
   · exact hr.fro b g
   · rcases hBown b g with g | g
     · exact .inr (.inl g)
     · exact .inr (.inr g)
   · exact .inr (.inr (Nat.le_trans hr.same.size g))
 · exact fun id x hx => ⟨(hr.hold id x hx).1,m.loc _ _ (hr.hold id x hx).2⟩
 · intro id o2 c hl hc
   rcases hrl2 id o2 c hl hc with ⟨k,o,e1,e2,e3⟩ | ⟨e1,e2,e3⟩
   · rcases hpost.mem c (.inr ⟨k,o,e1,e3⟩) with g | g
     · exact hBown c g
     · exact .inr (Nat.le_trans hr.same.size g)
   · exact hr.rown id o2 c e1 e3
 · exact SVRs_ren hloc hrow2 _ _ (fun y hy => inst_no_tup y hy) hi.vals
end
def retVal:List Value → Value
 | [v] => v
 | vs => .tuple vs.toArray
def OutR (K:Tm → List Dyn → Prop):(l:List Tm) → (outsT l).denote → Prop
 | [],_ => False
 | [T'],y => K T' (fromD T'.cts y)
 | T' :: b :: r,y => match y with
   | .inl a => K T' (fromD T'.cts a)
   | .inr c => OutR K (b :: r) c
theorem OutR.mono {K K':Tm → List Dyn → Prop} (h:∀ T ds,K T ds → K' T ds):∀ {l:List Tm} {y:(outsT l).denote},OutR K l y → OutR K' l y
 | [],_,g => g
 | [T'],y,g => h _ _ g
 | T' :: b :: r,.inl a,g => h _ _ g
 | T' :: b :: r,.inr c,g => OutR.mono h (l:=b :: r) g
def FnOk (P : Program) (cx : Cx) (f φ : Nat) : Prop := ∀ d y, cx.rf φ d = some y → (∃ fn : Func, P.funcs[f]? = some fn ∧ (fn.name == "runtime.NumGoroutine") = false ∧ fn.body.isNone = false) ∧
 ∀ (w:World) (Φ:Nat → Prop) (vs:List Value) (γ:Loc),cx.gp w Φ → InstR w Φ (cx.kin φ) (fromD (cx.kin φ).cts d) vs γ →
  Calls P f vs.toArray w fun e w' => ∃ Φ' γ' rs,e = .returned (retVal rs) ∧ OutR (fun T' ds' => InstR w' Φ' T' ds' rs γ' ∧ PostR w Φ γ (cx.kin φ) (fromD (cx.kin φ).cts d) w' Φ' γ' T' ds') (cx.kouts φ) y
section
variable {P:Program} {R:Type} {w0:World} {Φ0 own0:Nat → Prop} {N:Frm} {w w':World} {Φ Φ':Nat → Prop} {β:Loc} {s s':St} {a:Act} {hp:List (Nat × SObj)}
variable {cx:Cx} {o:Oper} {next:Act → World → Prop} {Q:Exit → Act → World → Prop} {k:St → Option R} {r:R}
theorem SVRs_len:∀ {l:List SVal} {u:List Value},SVRs w Φ β hp l u → u.length = l.length
 | [],_,h => by cases h; rfl
 | x :: l,_,⟨v,vs,e,_,h⟩ => by subst e; simp [SVRs_len h]
theorem partsOf_sound:∀ {vs:List SVal} {us:List Value} {ps:List (List Leaf × Bool)},partsOf vs = some ps → SVRs w Φ β hp vs us → PartsR w Φ β hp ps us
 | [],us,ps,h,hv => by simp [partsOf] at h; subst h; exact hv
 | v :: vs,us,ps,h,⟨u,us',e,h1,h2⟩ => by
   subst e
   simp only [partsOf] at h
   split at h
   case h_2 => cases h
   rename_i p ps' hp' hps
   cases h
   refine ⟨u,us',rfl,?_,partsOf_sound hps h2⟩
   cases v with
   | one l => cases hp'; show PartR _ _ _ _ _ _; unfold PartR; simp only [Bool.false_eq_true,if_false]; exact ⟨u,[],rfl,h1,rfl⟩
   | agg cs => cases hp'; unfold PartR; simp only [if_true]; exact h1
   | tup _ => cases hp'
   | skip => cases hp'
theorem resultVal_sound {vs:List SVal} {us:List Value} {v:SVal} (h:resultVal vs = some v) (hv:SVRs w Φ β hp vs us):SVR w Φ β hp v (retVal us):=by
 unfold resultVal at h
 split at h
 · cases h
   obtain ⟨u,us',e,h1,h2⟩:=hv
   cases h2; subst e; exact h1
 · rename_i hne
   split at h
   case h_2 => cases h
   rename_i ps hps
   cases h
   have:retVal us = .tuple us.toArray:=by
    unfold retVal
    split
    · rename_i v'
      have:=SVRs_len hv
      match vs,this,hne with
      | [x],_,hne => exact absurd rfl (hne x)
    · rfl
   rw [this]
   exact ⟨us.toArray,rfl,by simpa using partsOf_sound hps hv⟩
theorem leafIds_sound:∀ {vs:List SVal} {us:List Value} {l:List (Option Nat)},SVRs w Φ β hp vs us → leafIds vs = some l → IdsR β l us
 | [],us,l,h,hl => by simp [leafIds] at hl; subst hl; exact h
 | v :: vs,us,l,⟨u,us',e,h1,h2⟩,hl => by
   subst e
   unfold leafIds at hl
   split at hl
   · rename_i heq; cases heq
   · rename_i id r heq
     cases heq
     split at hl
     case h_2 => cases hl
     rename_i l' hl'
     cases hl
     obtain ⟨b,g1,g2⟩:=h1
     exact ⟨u,us',rfl,⟨b,g1,g2⟩,leafIds_sound h2 hl'⟩
   · rename_i r heq
     cases heq
     split at hl
     case h_2 => cases hl
     rename_i l' hl'
     cases hl
     exact ⟨u,us',rfl,h1,leafIds_sound h2 hl'⟩
   · cases hl
theorem idVals_sound:∀ {l:List (Option Nat)} {us:List Value},IdsR β l us → SVRs w Φ β hp (idVals l) us
 | [],_,h => h
 | none :: r,_,⟨v,vs',e,h1,h2⟩ => ⟨v,vs',e,h1,idVals_sound h2⟩
 | some id :: r,_,⟨v,vs',e,⟨b,h1,h3⟩,h2⟩ => ⟨v,vs',e,⟨b,h1,h3⟩,idVals_sound h2⟩
theorem SVRs_app:∀ {l m:List SVal} {u v:List Value},SVRs w Φ β hp l u → SVRs w Φ β hp m v → SVRs w Φ β hp (l ++ m) (u ++ v)
 | [],m,u,v,h,k => by cases h; exact k
 | x :: l,m,u,v,⟨a,us,e,h1,h2⟩,k => by subst e; exact ⟨a,us ++ v,rfl,h1,SVRs_app h2 k⟩
theorem pstep_makeFunc (hr:Rel w0 Φ0 own0 N w Φ β s a) {f:Nat} {x y:Array Operand} (ho:o.op = .makeFunc (.func f) x y) (h:stepK cx o s k = some r):PStep P R (fun _ => True) w Φ β s a o k r:=by
 simp only [stepK,ho] at h
 split at h
 case h_2 => cases h
 rename_i l m hl hm
 obtain ⟨v1,e1,e2⟩:=Option.bind_eq_some_iff.1 hl
 obtain ⟨v2,f1,f2⟩:=Option.bind_eq_some_iff.1 hm
 have g1:=leafIds_sound (evalAll_sound hr _ _ e1) e2
 have g2:=leafIds_sound (evalAll_sound hr _ _ f1) f2
 refine pstep h (v:=.func (.func f) (x.map a.eval) (y.map a.eval)) (fun w _ => by simp [execOp,ho,Instr.makeFunc]) ⟨_,_,rfl,?_,?_⟩
 · simpa using g1
 · simpa using g2
theorem step_makeFunc (hr:Rel w0 Φ0 own0 N w Φ β s a) (hN:∀ d,o.dst = some d → N.ok d) (hk:∀ s' a' w' Φ' β',Rel w0 Φ0 own0 N w' Φ' β' s' a' → k s' = some r → next a' w')
  {f:Nat} {x y:Array Operand} (ho:o.op = .makeFunc (.func f) x y) (h:stepK cx o s k = some r):o.wp P a w next Q :=
 (pstep_makeFunc hr ho h).wp hr trivial hN hk
theorem leaveF_sound {T:Tm} {ρ:Rho} {K:Tm → List Dyn → Prop} {k:SVal → St → Option R}:∀ {l:List Tm} {y:(outsT l).denote},OutR K l y → leaveF T ρ s l y k = some r →
  ∃ T' ds',K T' ds' ∧ ∃ v,resultVal (backVals T ρ T' ds' s) = some v ∧ k v (backSt T ρ T' ds' s) = some r
 | [],_,g,_ => g.elim
 | [T'],y,g,h => by
   simp only [leaveF] at h
   split at h
   · rename_i v hv; exact ⟨_,_,g,v,hv,h⟩
   · cases h
 | T' :: b :: r',.inl x,g,h => by
   simp only [leaveF] at h
   split at h
   · rename_i v hv; exact ⟨_,_,g,v,hv,h⟩
   · cases h
 | T' :: b :: r',.inr x,g,h => leaveF_sound (l:=b :: r') g (by simpa only [leaveF] using h)
theorem leaveN_sound {K:Tm → List Dyn → Prop} {k:SVal → St → Option R}:∀ {l:List Tm} {y:(outsT l).denote},OutR K l y → leaveN s l y k = some r →
  ∃ T' ds',K T' ds' ∧ T'.objs = [] ∧ (T'.vals ds').all SVal.flat = true ∧ ∃ v,resultVal (T'.vals ds') = some v ∧ k v s = some r
 | [],_,g,_ => g.elim
 | [T'],y,g,h => by
   simp only [leaveN] at h
   obtain ⟨hb,h⟩:=cond_none h
   simp only [and_eq_true,List.isEmpty_iff] at hb
   split at h
   · rename_i v hv; exact ⟨_,_,g,hb.1,hb.2,v,hv,h⟩
   · cases h
 | T' :: b :: r',.inl x,g,h => by
   simp only [leaveN] at h
   obtain ⟨hb,h⟩:=cond_none h
   simp only [and_eq_true,List.isEmpty_iff] at hb
   split at h
   · rename_i v hv; exact ⟨_,_,g,hb.1,hb.2,v,hv,h⟩
   · cases h
 | T' :: b :: r',.inr x,g,h => leaveN_sound (l:=b :: r') g (by simpa only [leaveN] using h)
theorem flatL_SVR {β':Loc} {hp':List (Nat × SObj)}:∀ {l:Leaf} {u:Value},l.flat = true → LfR w Φ β hp l u → LfR w' Φ' β' hp' l u
 | .int _ _,_,_,h => h
 | .bool _,_,_,h => h
 | .str _,_,_,h => h
 | .undef,_,h,_ => by cases h
 | .list _ _,_,h,_ => by cases h
 | .clist _ _,_,h,_ => by cases h
 | .nils,_,h,_ => by cases h
 | .ptr _ _,_,h,_ => by cases h
 | .eptr _ _ _,_,h,_ => by cases h
 | .vptr _ _ _,_,h,_ => by cases h
 | .sl _ _,_,h,_ => by cases h
 | .fn _ _ _,_,h,_ => by cases h
 | .ifp _ _ _,_,h,_ => by cases h
 | .ifi _ _ _,_,h,_ => by cases h
 | .mp _,_,h,_ => by cases h
 | .nilp,_,h,_ => by cases h
 | .nilf,_,h,_ => by cases h
 | .nili,_,h,_ => by cases h
 | .nilm,_,h,_ => by cases h
 | .anyb,_,h,_ => by cases h
theorem flatLs_SVR {β':Loc} {hp':List (Nat × SObj)}:∀ {l:List Leaf} {u:List Value},l.all Leaf.flat = true → LfRs w Φ β hp l u → LfRs w' Φ' β' hp' l u
 | [],_,_,h => h
 | x :: l,_,hf,⟨v,vs,e,h1,h2⟩ => by
   simp only [List.all_cons,and_eq_true] at hf
   exact ⟨v,vs,e,flatL_SVR hf.1 h1,flatLs_SVR hf.2 h2⟩
theorem flat_SVRs {β':Loc} {hp':List (Nat × SObj)}:∀ {l:List SVal} {u:List Value},l.all SVal.flat = true → SVRs w Φ β hp l u → SVRs w' Φ' β' hp' l u
 | [],_,_,h => h
 | x :: l,_,hf,⟨v,vs,e,h1,h2⟩ => by
   simp only [List.all_cons,and_eq_true] at hf
   refine ⟨v,vs,e,?_,flat_SVRs hf.2 h2⟩
   cases x with
   | one y => exact flatL_SVR (l:=y) hf.1 h1
   | agg cs => obtain ⟨us,e1,h3⟩:=h1; exact ⟨us,e1,flatLs_SVR hf.1 h3⟩
   | tup _ => cases hf.1
   | skip => cases hf.1
theorem Rel.grown (hr:Rel w0 Φ0 own0 N w Φ β s a) (h:Same w (fun _ => False) w'):Rel w0 Φ0 own0 N w' Φ β s a:=by
 have hblk:∀ b,b < w.heap.size → w'.heap[b]? = w.heap[b]?:=fun b hb => h.block b hb (fun h => h)
 have m:Mono w Φ β s.heap w' Φ β s.heap:=⟨fun b hb => hblk b (hr.hp.flt b hb),fun _ h => h,fun _ _ h => h,fun _ _ _ _ h => h,fun id b o r hb _ => by
  unfold blockSize; rw [hblk b (hr.hp.blt id b o hb)]⟩
 have hrb:∀ {id:Nat} {o:SObj} {c:Nat},RowB w' β id o c → RowB w β id o c:=fun hc => RowB_of (w:=w) rfl (fun b p hb => hblk b (hr.hp.blt _ _ _ hb)) hc
 refine ⟨fun t v hv => SVR_mono m v _ (hr.env t v hv),⟨fun id o ho => ObR_mono m (fun b p hb => hblk b (hr.hp.blt id b p hb)) (fun _ _ _ _ h => h) (fun c hc => ⟨hblk c (hr.hp.rin id o c ho hc).2.1,fun h => h⟩) (hr.hp.ob id o ho),hr.hp.lt,hr.hp.hlt,hr.hp.inj,fun id b p hb => Nat.lt_of_lt_of_le (hr.hp.blt id b p hb) h.size,fun b hb => Nat.lt_of_lt_of_le (hr.hp.flt b hb) h.size,
   fun id o c ho hc => ⟨(hr.hp.rin id o c ho (hrb hc)).1,Nat.lt_of_lt_of_le (hr.hp.rin id o c ho (hrb hc)).2.1 h.size,(hr.hp.rin id o c ho (hrb hc)).2.2⟩,fun id id' o o' c ho ho' hc hc' => hr.hp.rinj id id' o o' c ho ho' (hrb hc) (hrb hc')⟩,
  hr.own,?_,hr.fri,hr.fro,hr.size,hr.fix,hr.defers.mono (fun d _ _ h1 h2 => ⟨hblk d (Array.getElem?_eq_some_iff.1 h1).1,h2⟩),hr.hold,hr.keep' m,fun id o c ho hc => hr.rown id o c ho (hrb hc)⟩
 refine ⟨h.os.trans hr.same.os,h.tape.trans hr.same.tape,h.output.trans hr.same.output,Nat.le_trans hr.same.size h.size,fun b hb hn => ?_⟩
 rw [hblk b (Nat.lt_of_lt_of_le hb hr.same.size)]
 exact hr.same.block b hb hn
theorem callTry_sound {args:List SVal} {k:SVal → St → Option R}:∀ {l:List Nat},callTry cx args s k l = some r → ∃ φ ∈ l,∃ d ρ s1 y,packIn (cx.kin φ) args s = some (d,ρ,s1) ∧ cx.rf φ d = some y ∧ (leaveF (cx.kin φ) ρ s1 (cx.kouts φ) y k = some r ∨ ((cx.kin φ).objs = [] ∧ leaveN s (cx.kouts φ) y k = some r))
 | [],h => by cases h
 | φ :: l,h => by
   simp only [callTry] at h
   split at h
   · rename_i d ρ s1 hp
     obtain ⟨y,h1,h2⟩:=Option.bind_eq_some_iff.1 h
     cases hl:cx.lend φ with
     | false => rw [hl] at h2; exact ⟨φ,by simp,d,ρ,s1,y,hp,h1,.inl h2⟩
     | true =>
       rw [hl] at h2
       obtain ⟨hb,h2⟩:=cond_none h2
       exact ⟨φ,by simp,d,ρ,s1,y,hp,h1,.inr ⟨List.isEmpty_iff.1 hb,h2⟩⟩
   · obtain ⟨φ',h1,h2⟩:=callTry_sound h
     exact ⟨φ',List.mem_cons_of_mem _ h1,h2⟩
theorem enter_sound [hG:GlobR cx.gp w0 Φ0 own0] (hf:∀ f,∀ φ ∈ cx.keys f,FnOk P cx f φ) (hr:Rel w0 Φ0 own0 N w Φ β s a) (hN:∀ d,o.dst = some d → N.ok d) (hk:∀ s' a' w' Φ' β',Rel w0 Φ0 own0 N w' Φ' β' s' a' → k s' = some r → next a' w')
  {f:Nat} {args:List SVal} {us:List Value} (hall:SVRs w Φ β s.heap args us) (h:callTry cx args s (fun r s' => k (s'.set o.dst r)) (cx.keys f) = some r)
  (hexec : ∀ fn : Func, P.funcs[f]? = some fn → (fn.name == "runtime.NumGoroutine") = false → fn.body.isNone = false → (execOp a.eval o).run P w = .ok (.enter f us.toArray) w) : o.wp P a w next Q := by
 obtain ⟨φ,hφ,d,ρ,s1,y,hpk,hy,hlv⟩:=callTry_sound h
 unfold packIn at hpk
 obtain ⟨hng,hpk⟩:=cond_none hpk
 obtain ⟨Φ1,β1,hP⟩:=packD_sound hr hall hpk
 obtain ⟨⟨fn,hfn1,hfn2,hfn3⟩,hcalls⟩:=hf f φ hφ d y hy
 have hcalls:=hcalls w Φ1 _ _ (hG.get hP.rel) hP.inst
 unfold Oper.wp
 rw [hexec fn hfn1 hfn2 hfn3,Oper.upon_enter]
 refine hcalls.mono fun e w' hpost => ?_
 obtain ⟨Φ',γ',rs,he,hout⟩:=hpost
 subst he
 rcases hlv with hlv | ⟨hno,hlv⟩
 case inr =>
  obtain ⟨T',ds',⟨hi,hpst⟩,hobj,hflat,v,hres,hkk⟩:=leaveN_sound hout hlv
  have hown:∀ b,¬ OwnH w (fun k => (ρ.at k).bind β1) ((cx.kin φ).heap (fromD (cx.kin φ).cts d)) b:=by
   rintro b (⟨id,ob,p,h1,_⟩ | ⟨id,ob,h1,_⟩) <;> simp [Tm.heap,hno,instObs,look] at h1
  have hsame:Same w (fun _ => False) w':=⟨hpst.same.os,hpst.same.tape,hpst.same.output,hpst.same.size,fun b hb _ => hpst.same.block b hb (hown b)⟩
  show next (a.put o.dst (retVal rs)) w'
  exact hk _ _ _ _ _ ((hr.grown hsame).set (resultVal_sound hres (flat_SVRs hflat hi.vals)) hN) hkk
 obtain ⟨T',ds',⟨hi,hpst⟩,v,hres,hkk⟩:=leaveF_sound hout hlv
 obtain ⟨β',k1,k2,k3⟩:=Rel.back hP hng hi hpst
 show next (a.put o.dst (retVal rs)) w'
 exact hk _ _ _ _ _ (k1.set (resultVal_sound hres k3) hN) hkk
theorem step_invoke [hG:GlobR cx.gp w0 Φ0 own0] (hcx:CxOk P cx) (hf:∀ f,∀ φ ∈ cx.keys f,FnOk P cx f φ) (hr:Rel w0 Φ0 own0 N w Φ β s a) (hN:∀ d,o.dst = some d → N.ok d) (hk:∀ s' a' w' Φ' β',Rel w0 Φ0 own0 N w' Φ' β' s' a' → k s' = some r → next a' w')
  {c:Call} (ho:o.op = .call c) {x:Operand} {name:String} (hc:c.callee = .invoke x name) (h:stepK cx o s k = some r):o.wp P a w next Q:=by
 simp only [stepK,ho,hc] at h
 split at h
 case h_2 => cases h
 rename_i fv args hfv hev
 have hargs:=evalAll_sound hr _ _ hev
 have hfr:=hr.eval hfv
 unfold invokeK at h
 split at h
 case h_2 => cases h
 rename_i t id off
 obtain ⟨b,hb,hv⟩:=hfr
 have go:∀ {f:Nat} {how:Option (Nat × Nat)} {rv:SVal} {u:Value},SVR w Φ β s.heap rv u → (method (P.types.size + Made.depth) t (.pointer (some ⟨b,off,none⟩)) name).run P w = .ok (f,u) w →
   callTry cx (rv :: args) s (fun r s' => k (s'.set o.dst r)) (cx.keys f) = some r → o.wp P a w next Q:=by
  intro f how rv u hrv hm hcall
  refine enter_sound hf hr hN hk (args:=rv :: args) (us:=u :: c.args.toList.map a.eval) ⟨u,_,rfl,hrv,hargs⟩ hcall fun fn h1 h2 h3 => ?_
  have e1:(#[a.eval x] ++ c.args.map a.eval:Array Value)[0]? = some (a.eval x):=by rw [← Array.getElem?_toList,Array.toList_append]; rfl
  have e2:(#[a.eval x] ++ c.args.map a.eval:Array Value).extract 1 (#[a.eval x] ++ c.args.map a.eval:Array Value).size = c.args.map a.eval:=by
   rw [← Array.toList_inj]; simp [List.extract_eq_take_drop]; rw [List.take_of_length_le (by simp)]
  have e3:(#[u] ++ c.args.map a.eval:Array Value) = (u :: c.args.toList.map a.eval).toArray:=by rw [← Array.toList_inj]; simp
  rw [hv] at e1 e2
  simp only [execOp,ho,resolve,hc,Sem.run_bind,Sem.run_pure,Result.andThen_ok,invoke,e1,e2,callMethod,hv,run_program,hm,callFunc,h1,h2,h3,e3,Bool.false_eq_true,if_false]
 split at h
 · rename_i f hmt
   have hm:=hcx.mt t name f none hmt w b off
   exact go (how:=none) (rv:=.one (.ptr id off)) ⟨b,hb,rfl⟩ hm h
 · rename_i f ty o' hmt
   have hm:=hcx.mt t name f (some (ty,o')) hmt w b off
   split at h
   case h_2 => cases h
   rename_i td htd
   obtain ⟨rv,b2,p2,val,g1,g2,g3,g4⟩:=loadK_run (hcx.tab ty _ htd) hr (v:=.one (.ptr id (off + o'))) (u:=.pointer (some ⟨b,off + o',none⟩)) ⟨b,hb,rfl⟩ h
   cases g1
   exact go (how:=none) g3 (hm val g2) g4
 · cases h
theorem step_call [hG:GlobR cx.gp w0 Φ0 own0] (hf:∀ f,∀ φ ∈ cx.keys f,FnOk P cx f φ) (hr:Rel w0 Φ0 own0 N w Φ β s a) (hN:∀ d,o.dst = some d → N.ok d) (hk:∀ s' a' w' Φ' β',Rel w0 Φ0 own0 N w' Φ' β' s' a' → k s' = some r → next a' w')
  {c:Call} (ho:o.op = .call c) {x:Operand} (hc:c.callee = .value x) (h:stepK cx o s k = some r):o.wp P a w next Q:=by
 simp only [stepK,ho,hc] at h
 split at h
 case h_2 => cases h
 rename_i fv args hfv hev
 have hargs:=evalAll_sound hr _ _ hev
 have hfr:=hr.eval hfv
 unfold callK at h
 split at h
 case h_2 => cases h
 rename_i f xs ys
 obtain ⟨us,vs,e1,hxs,hys⟩:=hfr
 have hall:SVRs w Φ β s.heap (idVals xs ++ (args ++ idVals ys)) (us.toList ++ (c.args.toList.map a.eval ++ vs.toList)):=SVRs_app (idVals_sound hxs) (SVRs_app hargs (idVals_sound hys))
 refine enter_sound hf hr hN hk hall h fun fn hfn1 hfn2 hfn3 => ?_
 have:us ++ c.args.map a.eval ++ vs = (us.toList ++ (c.args.toList.map a.eval ++ vs.toList)).toArray:=by rw [← Array.toList_inj]; simp
 simp only [execOp,ho,resolve,hc,e1,Deferred.ofValue,Sem.run_bind,Sem.run_pure,Result.andThen_ok,invoke,callFunc,run_program,hfn1,hfn2,hfn3,this,Bool.false_eq_true,if_false]
theorem out_post {T T':Tm} {ds ds':List Dyn} {w1:World} {Φ1 Φ2:Nat → Prop} {γ β2:Loc} {us:List Value} {ρ:Rho} {s1:St} (hkid:N.kid = Stays T) (hkw:N.kw = w) (hkβ:N.kβ = γ) (hkh:N.kh = T.heap ds)
  (hP:PackR w Φ (OwnH w γ (T.heap ds)) N w1 Φ1 β s a T' (stayRho 0 T.objs) us ds' ρ s1 Φ2 β2):PostR w Φ γ T ds w1 Φ2 (fun k => (ρ.at k).bind β2) T' ds':=by
 have hr:=hP.rel
 refine ⟨hr.same,fun b hb => ?_,hr.fri,hr.fro,fun k hk => ?_⟩
 · rcases hb with ⟨k,o',p,h1,h2,h3⟩ | ⟨k,o',h1,h2⟩
   · obtain ⟨_,bo,_,h4⟩:=hP.obj k o' h1
     rcases h4 with ⟨_,h4⟩ | ⟨id,ob,g1,g2,g3,g4⟩
     · subst h4; cases h2
     · exact hr.mine (hP.free id (rho_mem g1)) g2 g3 (by simpa [g1] using h3)
   · obtain ⟨_,bo,_,h4⟩:=hP.obj k o' h1
     rcases h4 with ⟨_,h4⟩ | ⟨id,ob,g1,g2,g3,g4,g5⟩
     · subst h4; exact absurd h2 (RowB_none rfl)
     · cases hir:o'.isRows with
       | false => exact absurd h2 (RowB_none hir)
       | true =>
         have:=g5 hir
         subst this
         exact hr.rown id _ b g2 (RowB_of (w:=w1) (w':=w1) (by simp [g1]) (fun _ _ _ => rfl) h2)
 · have hst:(stayRho 0 T.objs).at k = some k:=by
    obtain ⟨o,ho⟩:=hk
    have:∀ (l:List (Bool × ObT)) (i j:Nat),nth l i = some (true,o) → (stayRho j l).at i = some (j + i):=by
     intro l
     induction l with
     | nil => intro i j h; cases h
     | cons x l ih =>
       intro i j h
       obtain ⟨b,q⟩:=x
       cases i with
       | zero => simp [nth] at h; obtain ⟨rfl,rfl⟩:=h; simp [stayRho,Rho.at,nth]
       | succ i =>
         have:=ih i (j + 1) (by simpa [nth] using h)
         cases b
         · simpa [stayRho,Rho.at,nth,Nat.add_assoc,Nat.add_comm 1 i] using this
         · simpa [stayRho,Rho.at,nth,Nat.add_assoc,Nat.add_comm 1 i] using this
    have:=this T.objs k 0 ho
    rwa [Nat.zero_add] at this
   have hk':=hP.rho k k hst
   have hkept:=hr.keep k (by rw [hkid]; exact hk)
   rw [hkw,hkβ,hkh] at hkept
   refine ⟨fun x hx => ?_,fun x hx r hrw => ?_,fun b o r hb hrw => ?_⟩
   · simp [hk',hkept.loc x hx]
   · exact hkept.row x hx r (hP.row k k hk' r hrw)
   · exact hkept.bs b o r hb (hP.row k k hk' r hrw)
theorem look_zip {vs:List SVal}:∀ {slots:List Nat} {vs:List SVal},SVRs w Φ β hp vs (slots.map fun t => a.tmps.getD t undef) → ∀ t v,look (slots.zip vs) t = some v → SVR w Φ β hp v (a.tmps.getD t undef)
 | [],vs,_,t,v,h => by simp [look] at h
 | n :: r,[],_,t,v,h => by simp [look] at h
 | n :: r,x :: vs,⟨u,us,e,h1,h2⟩,t,v,h => by
   simp only [List.map_cons,List.cons.injEq] at e
   obtain ⟨rfl,rfl⟩:=e
   simp only [List.zip_cons_cons,look_cons] at h
   split at h
   · rename_i e; subst e; cases h; exact h1
   · exact look_zip (vs:=vs) h2 t v h
theorem inst_base {T:Tm} {ds:List Dyn} {γ:Loc} {slots:List Nat} {n:Nat} {fix:Nat → Option Value} (hi:InstR w Φ T ds (slots.map fun t => a.tmps.getD t undef) γ) (hsz:a.tmps.size = n) (hfix:∀ t v,fix t = some v → a.tmps.getD t undef = v) {B:Nat} (hd:DefR B w Φ a.defers) :
  Rel w Φ (OwnH w γ (T.heap ds)) ⟨n,fix,fun _ _ => False,Stays T,w,γ,T.heap ds,B,[]⟩ w Φ γ (inSt slots T ds) a:={
 env:=look_zip (vs:=T.vals ds) hi.vals
 hp:=⟨hi.hp.ob,hi.hp.lt,hi.hp.hlt,hi.hp.inj,hi.hp.blt,hi.hp.flt,hi.hp.rin,hi.hp.rinj⟩
 own:=fun id o b p h1 h2 h3 => .inl (.inl ⟨id,o,p,h1,h2,h3⟩)
 rown:=fun id o c h1 h2 => .inl (.inr ⟨id,o,h1,h2⟩)
 same:=.refl _ _
 fri:=fun _ h => h
 fro:=fun _ h => .inl h
 size:=hsz
 fix:=hfix
 defers:=⟨hd,fun _ h => by cases h⟩
 hold:=fun _ _ h => h.elim
 keep:=fun id _ => .refl .. }
theorem GlobR.enter {gp:World → (Nat → Prop) → Prop} (hm:GpMono gp) (hg:gp w Φ) {T:Tm} {ds:List Dyn} {vs:List Value} {γ:Loc} (hi:InstR w Φ T ds vs γ):GlobR gp w Φ (OwnH w γ (T.heap ds)):={
 mono:=hm
 at0:=hg
 out:=fun b hb => ⟨by
  rintro (⟨id,ob,p,h1,h2,h3⟩ | ⟨id,ob,h1,h2⟩)
  · exact ObR_notΦ (hi.hp.ob id ob h1) h2 h3 hb
  · exact (hi.hp.rin id ob b h1 h2).1 hb,hi.hp.flt b hb⟩ }
end
end Go.Bm
end
