import Derived.Test.YtadonikkibahnaaGreatBmB
open Bool (and_eq_true)
section
namespace Go.Bm
set_option linter.unusedVariables false
set_option linter.unusedSimpArgs false
section
variable {P:Program} {R:Type} {w0:World} {Φ0 own0:Nat → Prop} {N:Frm} {w:World} {Φ:Nat → Prop} {β:Loc} {s:St} {a:Act} {hp:List (Nat × SObj)}
variable {cx:Cx} {o:Oper} {next:Act → World → Prop} {Q:Exit → Act → World → Prop} {k:St → Option R} {r:R}
theorem blockSize_new (w:World) (cs:Array Value) (t:TypeId):blockSize (w.alloc (.cells cs t)) w.heap.size = cs.size:=by
 unfold blockSize; rw [heap_alloc_new]
theorem Rel.newArr (hr:Rel w0 Φ0 own0 N w Φ β s a) {e:CT} {l:List e.denote} {cs:Array Value} (t:TypeId) (cap:Nat)
  (hrow:∀ i x,nth l i = some x → VC w Φ e x ((cs.toList.drop (i * e.size)).take e.size)) (hcap:cap * e.size = cs.size) (hle:l.length ≤ cap) (hpos:0 < e.size) :
  Rel w0 Φ0 own0 N (w.alloc (.cells cs t)) Φ (β.at s.next (some (w.heap.size,0))) (s.new (.arr e l)) a ∧
   LfR (w.alloc (.cells cs t)) Φ (β.at s.next (some (w.heap.size,0))) (s.new (.arr e l)).heap (.sl s.next none) (.slice (some ⟨w.heap.size,0,none⟩) l.length cap):=by
 refine ⟨hr.new _ _ 0 (fun _ => RowB_none rfl) (.inr ⟨w.heap.size,0,by simp [Loc.at],fun h => absurd (hr.hp.flt _ h) (by omega),Fz.new _ _ _,fun i x hx => ?_⟩),some (w.heap.size,0),by simp [Loc.at],⟨_,_,_,rfl⟩,?_⟩
 · refine ⟨_,?_,VC_mono (mono_alloc hr.hp (Obj.cells cs t) (.arr e l) (some (w.heap.size,0))).frz (fun _ h => h) _ _ _ (hrow i x hx)⟩
   have:=drop_take_cellsAt (cellsAt_new w cs t) (i * e.size) e.size
   simpa using this
 · intro sz n hrw
   simp only [St.new,look_cons,if_true,rowOf] at hrw
   cases hrw
   exact ⟨0,cap,rfl,hle,.inl (by simp),by simp,by rw [blockSize_new]; left; simp; omega,fun _ => ⟨rfl,by rw [blockSize_new]; omega,hpos⟩⟩
theorem Rel.newRows (hr:Rel w0 Φ0 own0 N w Φ β s a) (e:CT) {n:Nat} {cs:Array Value} (t:TypeId) (hall:∀ j,j < n → cs.toList[j]? = some (.slice none 0 0)) (hle:n ≤ cs.size) :
  Rel w0 Φ0 own0 N (w.alloc (.cells cs t)) Φ (β.at s.next (some (w.heap.size,0))) (s.new (.rows e (List.replicate n []) none)) a ∧
   LfR (w.alloc (.cells cs t)) Φ (β.at s.next (some (w.heap.size,0))) (s.new (.rows e (List.replicate n []) none)).heap (.sl s.next none) (.slice (some ⟨w.heap.size,0,none⟩) n cs.size):=by
 have hcell:∀ j,j < n → (w.alloc (.cells cs t)).cell? ⟨w.heap.size,j,none⟩ = some (.slice none 0 0):=fun j hj => by
  rw [World.cell?_alloc_new]; have:=hall j hj; rwa [Array.getElem?_toList] at this
 have hnil:∀ {hs:List Value} {i:Nat} {v:Value},hs.length = n → cellsAt (w.alloc (.cells cs t)) w.heap.size 0 hs → hs[i]? = some v → v = .slice none 0 0:=by
  intro hs i v hl hc hv
  have hi:=(List.getElem?_eq_some_iff.1 hv).1
  have h1:=cellsAt_get hs 0 _ hc i v hv
  rw [Nat.zero_add,hcell i (by omega)] at h1
  exact (Option.some.inj h1).symm
 refine ⟨hr.new _ _ 0 ?_ ?_,some (w.heap.size,0),by simp [Loc.at],⟨_,_,_,rfl⟩,?_⟩
 · rintro c ⟨hs,g,⟨_,hl,b,o,hb,hc⟩,i,v,hv,_,o',n',cap',e1,_⟩
   simp only [Loc.at,if_true,Option.some.injEq,Prod.mk.injEq] at hb
   obtain ⟨rfl,rfl⟩:=hb
   have:=hnil (by simpa using hl) hc hv
   rw [e1] at this
   cases this
 · have hc0:cellsAt (w.alloc (.cells cs t)) w.heap.size 0 (List.replicate n (.slice none 0 0)):=cellsAt_of _ _ _ fun j v hj => by
    have hi:=(List.getElem?_eq_some_iff.1 hj).1
    simp only [List.length_replicate] at hi
    rw [Nat.zero_add,hcell j hi]
    rw [List.getElem?_replicate,if_pos hi] at hj
    exact hj
   refine ⟨w.heap.size,0,List.replicate n (.slice none 0 0),by simp [Loc.at],fun h => absurd (hr.hp.flt _ h) (by omega),Fz.new _ _ _,hc0,by simp,fun i v r h1 h2 _ => ?_,fun i j v v' c h1 _ _ _ h3 _ => ?_⟩
   · have hv:=hnil (by simp) hc0 h1
     have hi:=(List.getElem?_eq_some_iff.1 h2).1
     simp only [List.length_replicate] at hi
     rw [List.getElem?_replicate,if_pos hi] at h2
     exact .inl ⟨⟨none,hv⟩,(Option.some.inj h2).symm⟩
   · have hv:=hnil (by simp) hc0 h1
     obtain ⟨o',n',cap',e1,_⟩:=h3
     rw [hv] at e1
     cases e1
 · intro sz m hrw
   simp only [St.new,look_cons,if_true,rowOf,List.length_replicate] at hrw
   cases hrw
   exact ⟨0,cs.size,rfl,hle,.inl (by simp),by simp,by rw [blockSize_new]; left; simp,fun _ => ⟨rfl,by rw [blockSize_new]; simp,by decide⟩⟩
theorem repeatL_len (n:Nat) (zs:List Leaf):(repeatL n zs).length = n * zs.length:=by
 induction n with
 | zero => simp [repeatL]
 | succ n ih => simp [repeatL,ih,Nat.add_mul]; omega
theorem repeatL_get (n:Nat) (zs:List Leaf):∀ i,i < n * zs.length → (repeatL n zs)[i]? = zs[i % zs.length]?:=by
 induction n with
 | zero => intro i h; simp at h
 | succ n ih =>
   intro i h
   simp only [repeatL]
   by_cases hi:i < zs.length
   · rw [List.getElem?_append_left hi,Nat.mod_eq_of_lt hi]
   · have e1:i % zs.length = (i - zs.length) % zs.length:=Nat.mod_eq_sub_mod (by omega)
     have e2:(n + 1) * zs.length = n * zs.length + zs.length:=Nat.succ_mul n zs.length
     rw [List.getElem?_append_right (by omega),ih (i - zs.length) (by omega),e1]
theorem zeros_rel {zs:List Leaf} {z:Array Value} (h:CoRs zs z.toList) (n:Nat) (hz:0 < zs.length) :
  LfRs w Φ β hp (repeatL n zs) ((Array.range (n * zs.length)).map (fun j => z[j % z.size]!)).toList:=by
 have hl:z.size = zs.length:=by simpa using LfRs_len (w:=w) (Φ:=Φ) (β:=β) (hp:=hp) (CoRs_LfRs h)
 obtain ⟨_,h2⟩:=LfRs_iff.1 (CoRs_LfRs (w:=w) (Φ:=Φ) (β:=β) (hp:=hp) h)
 refine LfRs_iff.2 ⟨by simp [repeatL_len],fun i l v hi hv => ?_⟩
 have hlt:i < n * zs.length:=by
  have:=(List.getElem?_eq_some_iff.1 hi).1
  rwa [repeatL_len] at this
 rw [repeatL_get n zs i hlt] at hi
 have hm:i % zs.length < z.size:=by rw [hl]; exact Nat.mod_lt _ hz
 simp [hlt,hl] at hv
 refine h2 _ l v hi ?_
 rw [← hv]
 simp [hm]
theorem packRows_sound {e:CT}:∀ (n:Nat) (cs:List Leaf) (us:List Value) (Φ:Nat → Prop) (s s':St) (l:List e.denote),Rel w0 Φ0 own0 N w Φ β s a → LfRs w Φ β s.heap cs us →
  packRows e (chunks e.size n cs) s = some (l,s') → ∃ Φ',Rel w0 Φ0 own0 N w Φ' β s' a ∧ Packed w Φ β s Φ' s' ∧ l.length = n ∧ ∀ i x,nth l i = some x → VC w Φ' e x ((us.drop (i * e.size)).take e.size)
 | 0,cs,us,Φ,s,s',l,hr,hc,h => by
   simp [chunks,packRows] at h; obtain ⟨rfl,rfl⟩:=h
   exact ⟨Φ,hr,.refl ..,rfl,fun i x hx => by simp [nth] at hx⟩
 | n + 1,cs,us,Φ,s,s',l,hr,hc,h => by
   simp only [chunks,packRows] at h
   split at h
   case h_2 => cases h
   rename_i x s1 hx
   split at h
   case h_2 => cases h
   rename_i y s2 hy
   cases h
   obtain ⟨Φ1,g1,g2,g3⟩:=packL_sound hr (LfRs_take e.size hc) hx
   obtain ⟨Φ2,k1,k2,k3,k4⟩:=packRows_sound n _ _ _ _ _ _ g1 (LfRs_mono g2.mono _ _ (LfRs_drop e.size hc)) hy
   refine ⟨Φ2,k1,g2.trans k2,by simp [k3],fun i z hz => ?_⟩
   cases i with
   | zero => simp [nth] at hz; subst hz; simpa using VC_mono k2.mono.frz k2.mono.sub _ _ _ g3
   | succ i =>
     have:=k4 i z (by simpa [nth] using hz)
     rw [List.drop_drop] at this
     rwa [show e.size + i * e.size = (i + 1) * e.size by rw [Nat.add_mul]; omega] at this
theorem run_buildSlice {t en:TypeId} {i:TypeInfo} {z:Value} (hu:P.underlying t = some (.slice en)) (hi:P.info? en = some i) (hz:i.zero = some z) (n:Nat) (ps:Array (Nat × Value)) (us:Array Value)
  (hn:n * i.size ≤ 16777216) (h0:n * i.size = 0 → Instr.fill (fun j => some (j * i.size,i.size)) #[] ps.toList = some us)
  (h:n * i.size ≠ 0 → Instr.fill (fun j => some (j * i.size,i.size)) ((Array.range (n * i.size)).map (fun j => z.cells[j % z.cells.size]!)) ps.toList = some us) :
  (Instr.buildSlice t n ps).run P w = .ok (.slice (some ⟨w.heap.size,0,none⟩) n n) (w.alloc (.cells us en)):=by
 have hn':¬ (n * i.size > 2 ^ 24):=by omega
 by_cases hc:n * i.size = 0
 · have h0':=h0 hc
   have e0:(Array.range 0).map (fun _ => (default:Value)) = #[]:=Array.eq_empty_of_size_eq_zero (by simp)
   simp [Instr.buildSlice,run_underlying hu,sizeOf,run_info hi,hc]
   rw [e0,h0']; simp [newRow]
 · have h':=h hc
   have hc':=hc
   rw [Nat.mul_eq_zero,not_or] at hc'
   simp [Instr.buildSlice,run_underlying hu,sizeOf,run_info hi,zeroValue,hz,hn',hc'.1,hc'.2,h',newRow]
   intro h; exact absurd h hc
theorem step_buildSlice (hcx:CxOk P cx) (hr:Rel w0 Φ0 own0 N w Φ β s a) (hN:∀ d,o.dst = some d → N.ok d) (hk:∀ s' a' w' Φ' β',Rel w0 Φ0 own0 N w' Φ' β' s' a' → k s' = some r → next a' w')
  {t:TypeId} {n:Nat} {ps:Array (Nat × Operand)} (ho:o.op = .buildSlice t n ps) (h:stepK cx o s k = some r):o.wp P a w next Q:=by
 simp only [stepK,ho] at h
 have hmap:(ps.map fun x => (x.1,a.eval x.2)).toList = ps.toList.map fun x => (x.1,a.eval x.2):=by simp
 split at h
 case h_3 => cases h
 ·
  rename_i en htd
  obtain ⟨_,hu,i,z,hi,hz,_,h1,_⟩:=hcx.tab t _ htd
  have hsz:=h1 rfl
  replace h:=cond_none h
  obtain ⟨hb,h⟩:=h
  have hb:=Nat.le_of_ble_eq_true hb
  split at h
  case h_2 => cases h
  rename_i cs hf
  by_cases hn:n = 0
  · subst hn
    obtain ⟨us,g1,g2⟩:=fill_sound hr _ ps.toList (repeatL 0 [.undef]) #[] cs rfl hf
    have hus:us.size = 0:=by
     have h1:=LfRs_len g2
     have:∀ (ps:List (Nat × Operand)) (cs out:List Leaf) ,fillK s.env (fun i => some (i,1)) cs ps = some out → out.length = cs.length:=by
      intro ps
      induction ps with
      | nil => intro cs out h; simp [fillK] at h; rw [h]
      | cons p ps ih =>
        intro cs out h
        obtain ⟨i,x⟩:=p
        simp only [fillK] at h
        split at h
        case h_2 => cases h
        split at h
        case h_2 => cases h
        obtain ⟨_,h⟩:=cond_none h
        rw [ih _ _ h,setMany_len]
     have h2:=this _ _ _ hf
     simp [repeatL] at h2
     simpa [h2] using h1
    obtain ⟨k1,k2⟩:=hr.newCells (cs:=us) en g2
    refine alloc_step hN hk h k1 (v:=.slice (some ⟨w.heap.size,0,none⟩) 0 0) ?_ ?_
    · have:=run_buildSlice (P:=P) (w:=w) hu hi hz 0 (ps.map fun x => (x.1,a.eval x.2)) us (by simp) (fun _ => by rw [hsz,hmap]; simpa using g1) (fun h => absurd (by simp) h)
      simp [execOp,ho,this]
    · refine ⟨some (w.heap.size,0),by simp [Loc.at],⟨_,_,_,rfl⟩,fun sz m hrw => ?_⟩
      simp only [St.new,look_cons,if_true,rowOf] at hrw
      have hm:cs.length = 0:=by have:=LfRs_len g2; simp at this; omega
      simp only [Option.some.injEq,Prod.mk.injEq] at hrw
      obtain ⟨rfl,rfl⟩:=hrw
      exact ⟨0,0,by simp [hm],by simp [hm],.inr rfl,by simp,.inr rfl,fun _ => ⟨rfl,by rw [blockSize_new,hus],Nat.one_pos⟩⟩
  · have hz0:LfRs w Φ β s.heap (repeatL n [.undef]) ((Array.range (n * i.size)).map (fun j => z.cells[j % z.cells.size]!)).toList:=by
     refine LfRs_iff.2 ⟨by simp [repeatL_len,hsz],fun j l v hj _ => ?_⟩
     have hlt:=(List.getElem?_eq_some_iff.1 hj).1
     rw [repeatL_get n [.undef] j (by rw [repeatL_len] at hlt; exact hlt)] at hj
     simp [Nat.mod_one] at hj
     subst hj; trivial
    obtain ⟨us,g1,g2⟩:=fill_sound hr _ ps.toList _ _ cs hz0 hf
    have hcs:cs.length = n:=by
     have:∀ (ps:List (Nat × Operand)) (cs out:List Leaf) ,fillK s.env (fun i => some (i,1)) cs ps = some out → out.length = cs.length:=by
      intro ps
      induction ps with
      | nil => intro cs out h; simp [fillK] at h; rw [h]
      | cons p ps ih =>
        intro cs out h
        obtain ⟨i,x⟩:=p
        simp only [fillK] at h
        split at h
        case h_2 => cases h
        split at h
        case h_2 => cases h
        obtain ⟨_,h⟩:=cond_none h
        rw [ih _ _ h,setMany_len]
     rw [this _ _ _ hf,repeatL_len]; simp
    have hus:us.size = n:=by have:=LfRs_len g2; simp at this; omega
    obtain ⟨k1,k2⟩:=hr.newCells (cs:=us) en g2
    refine alloc_step hN hk h k1 (v:=.slice (some ⟨w.heap.size,0,none⟩) n n) ?_ ?_
    · have:=run_buildSlice (P:=P) (w:=w) hu hi hz n (ps.map fun x => (x.1,a.eval x.2)) us (by rw [hsz]; omega) (fun h => absurd h (by rw [hsz]; omega)) (fun _ => by rw [hmap]; rw [hsz] at *; simpa using g1)
      simp [execOp,ho,this]
    · refine ⟨some (w.heap.size,0),by simp [Loc.at],⟨_,_,_,rfl⟩,fun sz m hrw => ?_⟩
      simp only [St.new,look_cons,if_true,rowOf] at hrw
      simp only [Option.some.injEq,Prod.mk.injEq] at hrw
      obtain ⟨rfl,rfl⟩:=hrw
      exact ⟨0,n,by simp [hcs],by simp [hcs],.inl (by simp),by simp,.inl (by rw [blockSize_new,hus]; simp),fun _ => ⟨rfl,by rw [blockSize_new,hus]; simp,Nat.one_pos⟩⟩
 · rename_i e en hne htd
   obtain ⟨_,hu,i,z,hi,hz,_,_,h1⟩:=hcx.tab t _ htd
   obtain ⟨hsz,hwf,hpos,hco,hzs⟩:=h1 (fun e' => hne (by rw [e']))
   replace h:=cond_none h
   obtain ⟨hb,h⟩:=h
   have hb:=Nat.le_of_ble_eq_true hb
   split at h
   case h_2 => cases h
   rename_i cs hf
   split at h
   case h_2 => cases h
   rename_i l s' hp
   have hzl:(zerosOf e).length = e.size:=by have:=LfRs_len (w:=w) (Φ:=Φ) (β:=β) (hp:=s.heap) (CoRs_LfRs hco); simp at this; omega
   have hz0:LfRs w Φ β s.heap (repeatL n (zerosOf e)) ((Array.range (n * i.size)).map (fun j => z.cells[j % z.cells.size]!)).toList:=by
    have:=zeros_rel (w:=w) (Φ:=Φ) (β:=β) (hp:=s.heap) hco n (by omega)
    rwa [hzl,← hsz] at this
   obtain ⟨us,g1,g2⟩:=fill_sound hr _ ps.toList _ _ cs hz0 hf
   have hcs:cs.length = n * e.size:=by
    have:∀ (ps:List (Nat × Operand)) (cs out:List Leaf) ,fillK s.env (fun i => some (i * e.size,e.size)) cs ps = some out → out.length = cs.length:=by
     intro ps
     induction ps with
     | nil => intro cs out h; simp [fillK] at h; rw [h]
     | cons p ps ih =>
       intro cs out h
       obtain ⟨i,x⟩:=p
       simp only [fillK] at h
       split at h
       case h_2 => cases h
       split at h
       case h_2 => cases h
       obtain ⟨_,h⟩:=cond_none h
       rw [ih _ _ h,setMany_len]
    rw [this _ _ _ hf,repeatL_len,hzl]
   have hus:us.size = n * e.size:=by have:=LfRs_len g2; simp at this; omega
   obtain ⟨Φ',p1,p2,p3,p4⟩:=packRows_sound n cs us.toList Φ s s' l hr g2 hp
   obtain ⟨k1,k2⟩:=p1.newArr (cs:=us) en n p4 (by omega) (by omega) hpos
   rw [p3] at k2
   refine alloc_step hN hk h k1 (v:=.slice (some ⟨w.heap.size,0,none⟩) n n) ?_ k2
   have:=run_buildSlice (P:=P) (w:=w) hu hi hz n (ps.map fun x => (x.1,a.eval x.2)) us (by rw [hsz]; omega)
    (fun h => by
      rw [hsz] at h
      rw [hmap,hsz]; rw [hsz,h] at g1
      rw [← g1]; congr 1; exact (Array.eq_empty_of_size_eq_zero (by simp)).symm)
    (fun _ => by rw [hmap]; rw [hsz] at *; exact g1)
   simp [execOp,ho,this]
theorem zero_VC:∀ (t:CT) (vs:List Value),t.wf = true → CoRs (zerosOf t) vs → VC w Φ t t.zero vs
 | .int k,vs,_,⟨v,vs',e,h1,h2⟩ => by cases h2; subst e; rw [show v = _ from h1]; rfl
 | .bool,vs,_,⟨v,vs',e,h1,h2⟩ => by cases h2; subst e; rw [show v = _ from h1]; rfl
 | .str,vs,_,⟨v,vs',e,⟨sx,h1,h3⟩,h2⟩ => by cases h2; subst e; exact ⟨sx,by rw [h1],h3⟩
 | .list e,vs,_,⟨v,vs',e',h1,h2⟩ => by cases h2; subst e'; exact ⟨none,0,by rw [show v = _ from h1]; rfl,Nat.le_refl _,.inl rfl⟩
 | .prod a b,vs,hw,⟨v,vs',e,h1,h2⟩ => by
   simp only [CT.wf,and_eq_true] at hw
   refine ⟨v,vs',e,?_,zero_VC b vs' hw.2 h2⟩
   cases a with
   | int k => rw [show v = _ from h1]; rfl
   | bool => rw [show v = _ from h1]; rfl
   | str => obtain ⟨sx,h1,h3⟩:=h1; exact ⟨sx,by rw [h1],h3⟩
   | list e => exact ⟨none,0,by rw [show v = _ from h1]; rfl,Nat.le_refl _,.inl rfl⟩
   | unit => cases hw.1
   | prod _ _ => cases hw.1
   | sum _ _ => cases hw.1
   | any p => exact ⟨v,rfl,by cases p <;> (rw [show v = _ from h1]; rfl)⟩
 | .any p,vs,_,⟨v,vs',e,h1,h2⟩ => by cases h2; subst e; exact ⟨v,rfl,by cases p <;> (rw [show v = _ from h1]; rfl)⟩
 | .unit,_,hw,_ => by cases hw
 | .sum _ _,_,hw,_ => by cases hw
theorem madeCells_cut {z:Array Value} {sz n i:Nat} (hz:z.size = sz) (hi:i < n):((madeCells z (n * sz)).toList.drop (i * sz)).take sz = z.toList:=by
 have h1:i * sz + sz ≤ n * sz:=by
  have:(i + 1) * sz ≤ n * sz:=Nat.mul_le_mul_right _ hi
  rw [Nat.add_mul] at this; omega
 apply List.ext_getElem?
 intro j
 rw [List.getElem?_take]
 by_cases hj:j < sz
 · rw [if_pos hj,List.getElem?_drop]
   have h2:i * sz + j < n * sz:=by omega
   have h3:(i * sz + j) % sz = j:=by rw [Nat.mul_comm,Nat.mul_add_mod,Nat.mod_eq_of_lt hj]
   simp [madeCells,h2,hz,h3,hj]
 · rw [if_neg hj,List.getElem?_eq_none (by simp; omega)]
theorem step_makeSlice (hcx:CxOk P cx) (hr:Rel w0 Φ0 own0 N w Φ β s a) (hN:∀ d,o.dst = some d → N.ok d) (hk:∀ s' a' w' Φ' β',Rel w0 Φ0 own0 N w' Φ' β' s' a' → k s' = some r → next a' w')
  {t:TypeId} {x y:Operand} (ho:o.op = .makeSlice t x y) (h:stepK cx o s k = some r):o.wp P a w next Q:=by
 simp only [stepK,ho] at h
 split at h
 case h_2 => cases h
 rename_i e en k1 n k2 m htd hx hy
 obtain ⟨_,hu,i,z,hi,hz,hby,hun,h1⟩:=hcx.tab t _ htd
 replace h:=cond_none h
 obtain ⟨hm,h⟩:=h
 replace h:=cond_none h
 obtain ⟨hn,h⟩:=h
 simp only [and_eq_true] at hm
 have hpos:0 < e.size:=by have:=hm.1; rw [Nat.blt_eq] at this; exact this
 obtain ⟨hm0,hm1⟩:=inb'_iff.1 hm.2
 obtain ⟨hn0,hn1⟩:=inb'_iff.1 hn
 have hx':=hr.eval hx
 have hy':=hr.eval hy
 simp only [SVR,LfR] at hx' hy'
 have hne:e ≠ .unit:=by intro e'; subst e'; exact absurd hpos (by decide)
 obtain ⟨hsz,hwf,_,hco,hzs⟩:=h1 hne
 have hnm:n ≤ m:=by omega
 have hm2:m ≤ 274877906944:=hm1
 have hrun:=run_make (P:=P) w t en i z hu hi hz k1 k2 n m hn0 hnm (by
  have h1:(i.bytes:Int) ≤ 512:=by omega
  have h2:(i.bytes:Int) * m ≤ 512 * m:=Int.mul_le_mul_of_nonneg_right h1 hm0
  omega) (by omega)
 rw [hsz] at hrun
 by_cases hmk:∃ e',cx.mkr t = true ∧ e = .list e'
 · obtain ⟨e',hm1',rfl⟩:=hmk
   have hz1:z.cells.toList = [.slice none 0 0]:=by
    obtain ⟨v,vs,e1,e2,e3⟩:=hco
    cases e3
    rw [e1,show v = _ from e2]
   rw [hm1'] at h
   have hsz1:madeCells z.cells (m.toNat * 1) = madeCells z.cells (m.toNat * (CT.list e').size):=rfl
   obtain ⟨g1,g2⟩:=hr.newRows e' (n:=n.toNat) (cs:=madeCells z.cells (m.toNat * (CT.list e').size)) en (fun j hj => by
    have hcut:=madeCells_cut (z:=z.cells) (sz:=1) (n:=m.toNat) (i:=j) hzs (by omega)
    rw [hz1] at hcut
    have:=congrArg (fun l => l[0]?) hcut
    simpa [CT.size] using this) (by rw [size_madeCells]; simp [CT.size]; omega)
   have e1:(madeCells z.cells (m.toNat * (CT.list e').size)).size = m.toNat:=by rw [size_madeCells]; exact Nat.mul_one _
   have g3:=g2
   rw [e1] at g3
   exact alloc_step hN hk h g1 (by simp [execOp,ho,hx',hy',hrun]) g3
 have hmade:madeS (cx.mkr t) e n.toNat = .arr e (List.replicate n.toNat e.zero):=by
  cases hmr:cx.mkr t with
  | false => unfold madeS; rfl
  | true => cases e <;> first | rfl | exact absurd ⟨_,hmr,rfl⟩ hmk
 rw [hmade] at h
 obtain ⟨g1,g2⟩:=hr.newArr (e:=e) (l:=List.replicate n.toNat e.zero) (cs:=madeCells z.cells (m.toNat * e.size)) en m.toNat
  (fun j x hj => by
    rw [nth_getElem?] at hj
    obtain ⟨hlt,hx⟩:=List.getElem?_eq_some_iff.1 hj
    simp only [List.length_replicate] at hlt
    simp only [List.getElem_replicate] at hx
    subst hx
    rw [madeCells_cut hzs (by omega)]
    exact zero_VC e _ hwf hco) (by rw [size_madeCells]) (by simp; omega) hpos
 simp only [List.length_replicate] at g2
 exact alloc_step hN hk h g1 (by simp [execOp,ho,hx',hy',hrun]) g2
end
section
variable {P:Program} {R:Type} {w0:World} {Φ0 own0:Nat → Prop} {N:Frm} {w:World} {Φ:Nat → Prop} {β:Loc} {s:St} {a:Act} {hp:List (Nat × SObj)}
variable {cx:Cx} {o:Oper} {next:Act → World → Prop} {Q:Exit → Act → World → Prop} {k:St → Option R} {r:R}
theorem run_sliceBound {kd:IntKind} {i:Int} {y:Nat} {code:BoundsCode} (h:inb' i y = true):(Instr.sliceBound (.int kd i) y code).run P w = .ok i.toNat w:=by
 obtain ⟨h0,h1⟩:=inb'_iff.1 h
 simp [Instr.sliceBound,asIntOf,h0,h1]
theorem bounds_sound (hr:Rel w0 Φ0 own0 N w Φ β s a) {isS:Bool} {lo hi:Option Operand} {lov hiv:Option SVal} {len cap:Nat} {k:Nat → Nat → Option R}
  (hlo:(match lo with | none => some none | some l => (evalO s.env l).map some) = some lov) (hhi:(match hi with | none => some none | some h => (evalO s.env h).map some) = some hiv) (hlc:len ≤ cap)
  (h:boundK lov hiv len k = some r):∃ l h',l ≤ h' ∧ h' ≤ len ∧ k l h' = some r ∧ ∀ w,(Instr.sliceBounds isS len cap (lo.map a.eval) (hi.map a.eval) none).run P w = .ok (l,h',cap) w:=by
 have ev:∀ (x:Operand) (kd:IntKind) (i:Int),evalO s.env x = some (.one (.int kd i)) → a.eval x = .int kd i:=fun x kd i hx => hr.eval hx
 have mono:∀ {i:Int} {m n:Nat},m ≤ n → inb' i m = true → inb' i n = true:=by
  intro i m n hmn hi
  obtain ⟨h0,h1⟩:=inb'_iff.1 hi
  exact inb'_iff.2 ⟨h0,by omega⟩
 unfold boundK at h
 split at h
 · cases lo <;> cases hi <;> simp at hlo hhi
   exact ⟨0,len,Nat.zero_le _,Nat.le_refl _,h,fun w => by simp [Instr.sliceBounds]⟩
 · rename_i kd i
   cases lo <;> cases hi <;> simp at hlo hhi
   rename_i y
   obtain ⟨hb,h⟩:=cond_none h
   obtain ⟨h0,h1⟩:=inb'_iff.1 hb
   refine ⟨0,i.toNat,Nat.zero_le _,by omega,h,fun w => ?_⟩
   simp [Instr.sliceBounds,ev y kd i hhi,run_sliceBound (mono hlc hb)]
 · rename_i kd i
   cases lo <;> cases hi <;> simp at hlo hhi
   rename_i y
   obtain ⟨hb,h⟩:=cond_none h
   obtain ⟨h0,h1⟩:=inb'_iff.1 hb
   refine ⟨i.toNat,len,by omega,Nat.le_refl _,h,fun w => ?_⟩
   simp [Instr.sliceBounds,ev y kd i hlo,run_sliceBound hb]
 · rename_i kd i kd' j
   cases lo <;> cases hi <;> simp at hlo hhi
   rename_i x y
   obtain ⟨hb,h⟩:=cond_none h
   obtain ⟨hb',h⟩:=cond_none h
   obtain ⟨h0,h1⟩:=inb'_iff.1 hb
   obtain ⟨h2,h3⟩:=inb'_iff.1 hb'
   refine ⟨i.toNat,j.toNat,by omega,by omega,h,fun w => ?_⟩
   simp [Instr.sliceBounds,ev x kd i hlo,ev y kd' j hhi,run_sliceBound (mono hlc hb),run_sliceBound hb']
 · cases h
theorem run_sliceAt {t:TypeId} {d:TypeDesc} (hd:P.underlying t = some d) (ha:isAggD d = false) (x:Value) (lo hi:Option Value):(Instr.sliceAt t x lo hi none).run P w = (Instr.slice t x lo hi none).run P w:=by
 simp only [Instr.sliceAt,Sem.run_bind,run_underlying hd,Result.andThen_ok]
 cases d <;> first | rfl | cases ha
theorem pstep_slice3 (hcx:CxOk P cx) (hr:Rel w0 Φ0 own0 N w Φ β s a)
  {t:TypeId} {x hi mx:Operand} (ho:o.op = .slice t x none (some hi) (some mx)) (h:stepK cx o s k = some r):PStep P R (fun _ => True) w Φ β s a o k r:=by
 simp only [stepK,ho] at h
 split at h
 case h_2 => cases h
 rename_i v hv mv td hx hhi hmx htd
 have h1:=hr.eval hx
 have h2:=hr.eval hhi
 have h3:=hr.eval hmx
 unfold slice3K at h
 split at h
 case h_2 => cases h
 rename_i e en e' p kd y kd' m
 obtain ⟨hb,h⟩:=cond_none h
 simp only [and_eq_true,beq_iff_eq] at hb
 obtain ⟨hb1,hb2,hb3⟩:=hb
 have hb1:=Nat.eq_of_beq_eq_true hb1
 have h2:a.eval hi = .int kd y:=h2
 have h3:a.eval mx = .int kd' m:=h3
 obtain ⟨aa,cap,ev,hlc,hrow⟩:=h1
 simp only [List.cons.injEq,and_true] at ev
 obtain ⟨_,hu,i,z,hi',hz,_,g1,g2⟩:=hcx.tab t _ htd
 have hsz:i.size = e.sz:=by
  by_cases he:e = .unit
  · subst he; exact g1 rfl
  · rw [(g2 he).1]; cases e <;> first | rfl | exact absurd rfl he
 refine pstep h (v:=.slice aa p.length p.length) (fun w _ => ?_) ⟨⟨aa,p.length,rfl,Nat.le_refl _,hrow⟩,aa,rfl⟩
 have b1:(Instr.sliceBounds true p.length cap none (some (.int kd y)) (some (.int kd' m))).run P w = .ok (0,p.length,p.length) w:=by
  subst hb2; subst hb3
  simp [Instr.sliceBounds,run_sliceBound (P:=P) (w:=w) (show inb' ((p.length:Nat):Int) cap = true from inb'_iff.2 ⟨by omega,by omega⟩),run_sliceBound (P:=P) (w:=w) (show inb' ((p.length:Nat):Int) p.length = true from inb'_iff.2 ⟨by omega,by omega⟩)]
 have e1:(Instr.sliceAt t (a.eval x) none (some (a.eval hi)) (some (a.eval mx))).run P w = .ok (.slice aa p.length p.length) w:=by
  simp only [Instr.sliceAt,Sem.run_bind,run_underlying hu,Result.andThen_ok]
  rw [ev,h2,h3]
  simp only [Instr.slice,Sem.run_bind,run_underlying hu,Result.andThen_ok,b1,sizeOf,run_info hi',Sem.run_pure,hsz]
  by_cases hp:p.length = 0
  · simp [hp]
  · rw [if_neg hp]
    cases aa <;> simp [Addr.add0,Addr.add]
 simp [execOp,ho,e1]
theorem sub_sub {α:Type} (l:List α) (i j:Nat):sub l (some (i,j)) = (l.drop i).take j:=rfl
theorem splitN_some {R:Type} {k:Nat → Option R} {r:R}:∀ {n i:Nat},splitN n i k = some r → k i = some r
 | 0,i,h => by
   obtain ⟨h1,h2⟩:=cond_none h
   rw [Nat.eq_of_beq_eq_true h1]; exact h2
 | n + 1,i,h => by
   unfold splitN at h
   cases hb:Nat.beq i (n + 1) with
   | true => rw [hb] at h; rw [Nat.eq_of_beq_eq_true hb]; exact h
   | false => rw [hb] at h; exact splitN_some h
theorem cellsN_some {R:Type} {s:St} {id n h:Nat} {k:Nat → Option R} {r:R} (g:cellsN s id n h k = some r):k h = some r:=by
 unfold cellsN at g
 split at g
 · exact splitN_some g
 · exact g
theorem pstep_slice (hcx:CxOk P cx) (hr:Rel w0 Φ0 own0 N w Φ β s a)
  {t:TypeId} {x:Operand} {lo hi:Option Operand} (ho:o.op = .slice t x lo hi none) (h:stepK cx o s k = some r):PStep P R (fun _ => True) w Φ β s a o k r:=by
 simp only [stepK,ho] at h
 split at h
 case h_2 => cases h
 rename_i v lov hiv hx hlo hhi
 split at h
 case h_2 => cases h
 rename_i td htd
 have h1:=hr.eval hx
 obtain ⟨d,hd,hagg⟩:=(hcx.tab t _ htd).und
 have hrun:∀ res w,(Instr.slice t (a.eval x) (lo.map a.eval) (hi.map a.eval) none).run P w = .ok res w → td.agg = false → (execOp a.eval o).run P w = .ok (.value res) w:=by
  intro res w hres htag
  simp [execOp,ho,run_sliceAt hd (hagg.trans htag),hres]
 have slc:∀ (e:CT) (en:Nat) (aa:Option Addr) (len cap l h':Nat),td = .slice e en → a.eval x = .slice aa len cap → l ≤ h' → h' ≤ len → len ≤ cap →
   (∀ w,(Instr.sliceBounds true len cap (lo.map a.eval) (hi.map a.eval) none).run P w = .ok (l,h',cap) w) → ∀ w,True → (execOp a.eval o).run P w = .ok (.value (.slice (if cap = l then aa else aa.map (·.add (l * e.sz))) (h' - l) (cap - l))) w:=by
  intro e en aa len cap l h' etd ev h2 h3 h4 hb w _
  subst etd
  obtain ⟨_,hu,i,z,hi',hz,_,g1,g2⟩:=hcx.tab t _ htd
  have hsz:i.size = e.sz:=by
   by_cases he:e = .unit
   · subst he; exact g1 rfl
   · rw [(g2 he).1]; cases e <;> first | rfl | exact absurd rfl he
  refine hrun _ w ?_ rfl
  simp [Instr.slice,run_underlying hu,ev,hb,sizeOf,run_info hi',hsz]
 unfold sliceK at h
 split at h
 ·
  rename_i z p
  obtain ⟨sx,ex,ex'⟩:=h1
  obtain ⟨_,dd,hdd,_,_,hst,_⟩:=hcx.tab t _ htd
  have:=hst _ rfl; subst this
  have hsz:sx.size = p.length:=by rw [← ex']; exact (Array.length_toList (xs:=sx.data)).symm
  obtain ⟨l,h',g1,g2,g3,g4⟩:=bounds_sound (P:=P) (isS:=false) hr hlo hhi (Nat.le_refl _) h
  refine pstep g3 (v:=.string (sx.extract l h')) (fun w _ => hrun _ w ?_ rfl) ⟨_,rfl,?_⟩
  · rw [← hsz] at g4
    simp [Instr.slice,run_underlying hdd,ex,g4]
  · rw [sub_sub,← ex']
    simp [ByteArray.data_extract,List.extract_eq_take_drop]
 ·
  rename_i e en e' p
  obtain ⟨hb,h⟩:=cond_none h
  have hb:=Nat.eq_of_beq_eq_true hb
  obtain ⟨aa,cap,ev,hlc,hrow⟩:=h1
  simp only [List.cons.injEq,and_true] at ev
  obtain ⟨l,h',g1,g2,g3,g4⟩:=bounds_sound (P:=P) (isS:=true) hr hlo hhi hlc h
  refine pstep g3 (slc _ _ aa _ cap l h' rfl ev g1 g2 hlc g4) ?_
  have hlen:(sub p (some (l,h' - l))).length = h' - l:=by simp only [sub,List.length_take,List.length_drop]; omega
  refine ⟨_,cap - l,by rw [hlen],by rw [hlen]; omega,?_⟩
  by_cases hn:sub p (some (l,h' - l)) = []
  · exact .inl hn
  · right
    have hlt:l < h':=by
     rcases Nat.lt_or_ge l h' with hh | hh
     · exact hh
     · exfalso; apply hn; apply List.eq_nil_of_length_eq_zero; simp [sub]; omega
    rcases hrow with hrow | ⟨b,ob,e1,e2,e3⟩
    · exfalso; rw [hrow] at g2; simp at g2; omega
    · refine ⟨b,ob + l * e.sz,?_,e2,fun i x hx => ?_⟩
      · rw [if_neg (by omega),e1]; simp [Addr.add0]
      · obtain ⟨us,hu,hv⟩:=e3 (l + i) x (by have:=sub_nth p (some (l,h' - l)) i x hx; simpa using this)
        refine ⟨us,?_,hv⟩
        rw [← hb]
        rwa [show ob + l * e'.size + i * e'.size = ob + (l + i) * e'.size by rw [Nat.add_mul]; omega]
 ·
  rename_i e en
  obtain ⟨l,h',g1,g2,g3,g4⟩:=bounds_sound (P:=P) (isS:=true) hr hlo hhi (Nat.le_refl 0) h
  have e1:l = 0:=by omega
  have e2:h' = 0:=by omega
  subst e1; subst e2
  refine pstep g3 (slc _ _ none 0 0 0 0 rfl h1 g1 g2 (Nat.le_refl _) g4) ?_
  simp [SVR,LfR]
 ·
  rename_i e en id
  obtain ⟨loc,hb,⟨aa,len,cap,ev⟩,hs⟩:=h1
  split at h
  case h_2 => cases h
  rename_i sz n hrw
  obtain ⟨hbq,h⟩:=cond_none h
  have hbq:=Nat.eq_of_beq_eq_true hbq
  have hsl:=hs sz n hrw
  cases loc with
  | none =>
    obtain ⟨⟨zz,e1⟩,e2,e3⟩:=hsl
    rw [ev] at e1; cases e1
    subst e2
    obtain ⟨l,h',g1,g2,g3,g4⟩:=bounds_sound (P:=P) (isS:=true) hr hlo hhi (Nat.le_refl 0) h
    have e1:l = 0:=by omega
    have e2:h' = 0:=by omega
    subst e1; subst e2
    refine pstep (cellsN_some g3) (slc _ _ aa 0 0 0 0 rfl ev g1 g2 (Nat.le_refl _) g4) ⟨none,hb,⟨_,_,_,rfl⟩,fun sz' n' hrw' => ?_⟩
    rw [hrw] at hrw'; cases hrw'
    exact ⟨⟨aa,by simp⟩,rfl,by simp⟩
  | some bo =>
    obtain ⟨b,ob⟩:=bo
    obtain ⟨o',cap',e1,e2,e3,e4,e5,_⟩:=hsl
    rw [ev] at e1; cases e1
    simp only [Option.getD_none] at *
    obtain ⟨l,h',g1,g2,g3,g4⟩:=bounds_sound (P:=P) (isS:=true) hr hlo hhi e2 h
    refine pstep (cellsN_some g3) (slc _ _ _ n cap l h' rfl ev g1 g2 e2 g4) ⟨some (b,ob),hb,⟨_,_,_,rfl⟩,fun sz' n' hrw' => ?_⟩
    rw [hrw] at hrw'; cases hrw'
    by_cases hc:cap = l
    · refine ⟨o',cap - l,by rw [if_pos hc]; simp,by simp; omega,.inr (by omega),by simp; omega,.inr (by omega),fun h => by cases h⟩
    · refine ⟨o' + l * sz,cap - l,by rw [if_neg hc,hbq]; simp [Addr.add0],by simp; omega,?_,by simp; omega,?_,fun h => by cases h⟩
      · left
        rcases e3 with e3 | e3
        · rw [e3]; simp
        · exfalso; omega
      · left
        have:(cap - l) * sz + l * sz = cap * sz:=by rw [← Nat.add_mul]; congr 1; omega
        rcases e5 with e5 | e5
        · omega
        · exfalso; omega
 ·
  rename_i e en id off m
  obtain ⟨loc,hb,⟨aa,len,cap,ev⟩,hs⟩:=h1
  split at h
  case h_2 => cases h
  rename_i sz n hrw
  obtain ⟨hbq,h⟩:=cond_none h
  have hbq:=Nat.eq_of_beq_eq_true hbq
  have hsl:=hs sz n hrw
  cases loc with
  | none =>
    obtain ⟨⟨zz,e1⟩,e2,e3⟩:=hsl
    rw [ev] at e1; cases e1
    simp only [Option.getD_some] at e3
    subst e2; subst e3
    obtain ⟨l,h',g1,g2,g3,g4⟩:=bounds_sound (P:=P) (isS:=true) hr hlo hhi (Nat.le_refl 0) h
    have e1:l = 0:=by omega
    have e2:h' = 0:=by omega
    subst e1; subst e2
    refine pstep g3 (slc _ _ aa 0 0 0 0 rfl ev g1 g2 (Nat.le_refl _) g4) ⟨none,hb,⟨_,_,_,rfl⟩,fun sz' n' hrw' => ?_⟩
    rw [hrw] at hrw'; cases hrw'
    exact ⟨⟨aa,by simp⟩,rfl,by simp⟩
  | some bo =>
    obtain ⟨b,ob⟩:=bo
    obtain ⟨o',cap',e1,e2,e3,e4,e5,_⟩:=hsl
    rw [ev] at e1; cases e1
    simp only [Option.getD_some] at *
    obtain ⟨l,h',g1,g2,g3,g4⟩:=bounds_sound (P:=P) (isS:=true) hr hlo hhi e2 h
    refine pstep g3 (slc _ _ _ m cap l h' rfl ev g1 g2 e2 g4) ⟨some (b,ob),hb,⟨_,_,_,rfl⟩,fun sz' n' hrw' => ?_⟩
    rw [hrw] at hrw'; cases hrw'
    by_cases hc:cap = l
    · refine ⟨o',cap - l,by rw [if_pos hc]; simp,by simp; omega,.inr (by omega),by simp; omega,.inr (by omega),fun h => by cases h⟩
    · refine ⟨o' + l * sz,cap - l,by rw [if_neg hc,hbq]; simp [Addr.add0],by simp; omega,?_,by simp; omega,?_,fun h => by cases h⟩
      · left
        rcases e3 with e3 | e3
        · rw [e3]; simp [Nat.add_mul]; omega
        · exfalso; omega
      · left
        have:(cap - l) * sz + l * sz = cap * sz:=by rw [← Nat.add_mul]; congr 1; omega
        rcases e5 with e5 | e5
        · omega
        · exfalso; omega
 · cases h
theorem step_slice (hcx:CxOk P cx) (hr:Rel w0 Φ0 own0 N w Φ β s a) (hN:∀ d,o.dst = some d → N.ok d) (hk:∀ s' a' w' Φ' β',Rel w0 Φ0 own0 N w' Φ' β' s' a' → k s' = some r → next a' w')
  {t:TypeId} {x:Operand} {lo hi:Option Operand} (ho:o.op = .slice t x lo hi none) (h:stepK cx o s k = some r):o.wp P a w next Q :=
 (pstep_slice hcx hr ho h).wp hr trivial hN hk
theorem ptrK_some {R:Type} {s:St} {id i:Nat} {k:SVal → Option R} {r:R} (h:ptrK s id i k = some r):k (.one (rowPtr s id i)) = some r:=by
 unfold ptrK at h
 unfold rowPtr
 split at h
 · rename_i cs hl
   exact splitN_some (k:=fun i' => k (.one (.ptr id i'))) h
 · exact h
theorem pstep_indexAddr (hcx:CxOk P cx) (hr:Rel w0 Φ0 own0 N w Φ β s a)
  {t:TypeId} {x i:Operand} (ho:o.op = .indexAddr t x i) (h:stepK cx o s k = some r):PStep P R (fun _ => True) w Φ β s a o k r:=by
 simp only [stepK,ho] at h
 split at h
 case h_2 => cases h
 rename_i td v j htd hx hi
 have h1:=hr.eval hx
 have h2:=hr.eval hi
 have run:∀ (e:CT) (en:Nat) (q:Addr) (len cap:Nat) (kd:IntKind) (z:Int),td = .slice e en → a.eval x = .slice (some q) len cap → a.eval i = .int kd z → 0 ≤ z → z < len →
   ∀ w,True → (execOp a.eval o).run P w = .ok (.value (.pointer (some (q.add (z.toNat * e.sz))))) w:=by
  intro e en q len cap kd z etd ev ei h0 hlt w _
  subst etd
  obtain ⟨_,hu,ii,zz,hi',hz,_,g1,g2⟩:=hcx.tab t _ htd
  have hsz:ii.size = e.sz:=by
   by_cases he:e = .unit
   · subst he; exact g1 rfl
   · rw [(g2 he).1]; cases e <;> first | rfl | exact absurd rfl he
  simp [execOp,ho,ev,ei,Instr.indexAt,asIntOf,run_underlying hu,sizeOf,run_info hi',hsz,h0,hlt]
 have row:∀ (e:CT) (en id sz n off m:Nat) (b ob o' len cap:Nat) (kd:IntKind) (z:Int),td = .slice e en → rowOf (look s.heap id) = some (sz,n) → sz = e.sz → β id = some (some (b,ob)) →
   a.eval x = .slice (some ⟨b,o',none⟩) len cap → len ≤ cap → (o' = ob + off * sz ∨ cap = 0) → a.eval i = .int kd z → 0 ≤ z → z < len → k (s.set o.dst (.one (rowPtr s id (off + z.toNat)))) = some r → PStep P R (fun _ => True) w Φ β s a o k r:=by
  intro e en id sz n off m b ob o' len cap kd z etd hrw hsz hb ev hlc ho' ei h0 hlt hkk
  have ho'':o' = ob + off * sz:=by
   rcases ho' with ho' | ho'
   · exact ho'
   · exfalso; omega
  refine pstep hkk (run e en _ len cap kd z etd ev ei h0 hlt) ?_
  rw [Addr.add0,← hsz,ho'',show ob + off * sz + z.toNat * sz = ob + (off + z.toNat) * sz by rw [Nat.add_mul]; omega]
  have ept:rowPtr s id (off + z.toNat) = .eptr id (off + z.toNat) 0 → SVR w Φ β s.heap (.one (rowPtr s id (off + z.toNat))) (.pointer (some ⟨b,ob + (off + z.toNat) * sz,none⟩)):=by
   intro e1
   rw [e1]
   refine ⟨some (b,ob),hb,⟨_,rfl⟩,fun sz' n' h' => ?_⟩
   rw [hrw] at h'; cases h'
   exact ⟨b,ob,rfl,by rw [Nat.add_zero]⟩
  cases hl:look s.heap id with
  | none => exact ept (by simp [rowPtr,hl])
  | some ob2 =>
    cases ob2 with
    | dead => exact ept (by simp [rowPtr,hl])
    | box cs => exact ept (by simp [rowPtr,hl])
    | arr e l => exact ept (by simp [rowPtr,hl])
    | frz e l => exact ept (by simp [rowPtr,hl])
    | map _ _ _ l => exact ept (by simp [rowPtr,hl])
    | rows _ _ _ => exact ept (by simp [rowPtr,hl])
    | mrows _ _ _ _ => exact ept (by simp [rowPtr,hl])
    | zip _ _ _ _ => exact ept (by simp [rowPtr,hl])
    | cells cs =>
      obtain ⟨b',vs,hb',_⟩:=hr.hp.ob id _ hl
      rw [hb] at hb'; cases hb'
      rw [hl] at hrw; cases hrw
      rw [show rowPtr s id (off + z.toNat) = .ptr id (off + z.toNat) by simp [rowPtr,hl]]
      exact ⟨b,by rw [hb],by simp⟩
 unfold indexAddrK at h
 split at h
 · rename_i e' en e l kd z
   obtain ⟨hb,h⟩:=cond_none h
   simp only [and_eq_true] at hb
   have hsz:=Nat.eq_of_beq_eq_true hb.1
   obtain ⟨h0,hlt⟩:=inb_iff.1 hb.2
   obtain ⟨aa,cap,ev,hlc,hrow⟩:=h1
   simp only [List.cons.injEq,and_true] at ev
   cases hn:nth l z.toNat with
   | none => rw [hn] at h; cases h
   | some y =>
     rw [hn] at h
     rcases hrow with hrow | ⟨b,ob,e1,e2,e3⟩
     · subst hrow; simp at hlt; omega
     · subst e1
       refine pstep h (run e' en _ _ cap kd z rfl ev h2 h0 hlt) ?_
       obtain ⟨us,hu,hv⟩:=e3 _ y hn
       exact ⟨b,ob + z.toNat * e.size,us,e2,hu,hv,by rw [Addr.add0,← hsz,Nat.add_zero]⟩
 · rename_i e' en e l kd z
   obtain ⟨hb,h⟩:=cond_none h
   simp only [and_eq_true] at hb
   have hsz:=Nat.eq_of_beq_eq_true hb.1
   obtain ⟨h0,hlt⟩:=inb_iff.1 hb.2
   obtain ⟨⟨aa,cap,ev,hlc,hrow⟩,_⟩:=h1
   simp only [List.cons.injEq,and_true] at ev
   cases hn:nth l z.toNat with
   | none => rw [hn] at h; cases h
   | some y =>
     rw [hn] at h
     rcases hrow with hrow | ⟨b,ob,e1,e2,e3⟩
     · subst hrow; simp at hlt; omega
     · subst e1
       refine pstep h (run e' en _ _ cap kd z rfl ev h2 h0 hlt) ?_
       obtain ⟨us,hu,hv⟩:=e3 _ y hn
       exact ⟨b,ob + z.toNat * e.size,us,e2,hu,hv,by rw [Addr.add0,← hsz,Nat.add_zero]⟩
 · rename_i e' en id kd z
   obtain ⟨loc,hb,⟨aa,len,cap,ev⟩,hs⟩:=h1
   split at h
   case h_2 => cases h
   rename_i sz n hrw
   obtain ⟨hbq,h⟩:=cond_none h
   simp only [and_eq_true] at hbq
   have hsz:=Nat.eq_of_beq_eq_true hbq.1
   obtain ⟨h0,hlt⟩:=inb_iff.1 hbq.2
   have hsl:=hs sz n hrw
   cases loc with
   | none => obtain ⟨_,e2,_⟩:=hsl; omega
   | some bo =>
     obtain ⟨b,ob⟩:=bo
     obtain ⟨o',cap',e1,e2,e3,e4,e5,_⟩:=hsl
     simp only [Option.getD_none] at *
     exact row e' en id sz n 0 0 b ob o' n cap' kd z rfl hrw hsz hb e1 e2 e3 h2 h0 hlt (by rw [Nat.zero_add]; exact ptrK_some h)
 · rename_i e' en id off m kd z
   obtain ⟨loc,hb,⟨aa,len,cap,ev⟩,hs⟩:=h1
   split at h
   case h_2 => cases h
   rename_i sz n hrw
   obtain ⟨hbq,h⟩:=cond_none h
   simp only [and_eq_true] at hbq
   have hsz:=Nat.eq_of_beq_eq_true hbq.1
   obtain ⟨h0,hlt⟩:=inb_iff.1 hbq.2
   have hsl:=hs sz n hrw
   cases loc with
   | none => obtain ⟨_,_,e2⟩:=hsl; simp only [Option.getD_some] at e2; omega
   | some bo =>
     obtain ⟨b,ob⟩:=bo
     obtain ⟨o',cap',e1,e2,e3,e4,e5,_⟩:=hsl
     simp only [Option.getD_some] at *
     exact row e' en id sz n off m b ob o' m cap' kd z rfl hrw hsz hb e1 e2 e3 h2 h0 hlt (ptrK_some h)
 · cases h
theorem step_indexAddr (hcx:CxOk P cx) (hr:Rel w0 Φ0 own0 N w Φ β s a) (hN:∀ d,o.dst = some d → N.ok d) (hk:∀ s' a' w' Φ' β',Rel w0 Φ0 own0 N w' Φ' β' s' a' → k s' = some r → next a' w')
  {t:TypeId} {x i:Operand} (ho:o.op = .indexAddr t x i) (h:stepK cx o s k = some r):o.wp P a w next Q :=
 (pstep_indexAddr hcx hr ho h).wp hr trivial hN hk
def SVRs (w:World) (Φ:Nat → Prop) (β:Loc) (hp:List (Nat × SObj)):List SVal → List Value → Prop
 | [],vs => vs = []
 | l :: ls,vs => ∃ v vs',vs = v :: vs' ∧ SVR w Φ β hp l v ∧ SVRs w Φ β hp ls vs'
theorem evalAll_sound (hr:Rel w0 Φ0 own0 N w Φ β s a):∀ (xs:List Operand) (vs:List SVal),evalAll s.env xs = some vs → SVRs w Φ β s.heap vs (xs.map a.eval)
 | [],vs,h => by simp [evalAll] at h; subst h; rfl
 | x :: xs,vs,h => by
   simp only [evalAll] at h
   split at h
   · rename_i v vs' h1 h2; cases h; exact ⟨_,_,rfl,hr.eval h1,evalAll_sound hr xs vs' h2⟩
   · cases h
theorem run_max:∀ (vs:List SVal) (xs:List Value) (j:IntKind) (z:Int) (k:SVal → Option R),SVRs w Φ β hp vs xs → maxK k j z vs = some r →
  ∃ q,k (.one (.int j q)) = some r ∧ ∀ w,(xs.foldlM Builtin.max2 (.int j z)).run P w = .ok (.int j q) w
 | [],xs,j,z,k,h,hk => by cases h; exact ⟨z,by simpa [maxK] using hk,fun w => by simp⟩
 | .one (.int j' b) :: vs,xs,j,z,k,⟨u,us,e,h1,h2⟩,hk => by
   subst e
   simp only [maxK] at hk
   obtain ⟨q,g1,g2⟩:=run_max vs us j _ k h2 hk
   have hu:u = .int j' b:=h1
   subst hu
   exact ⟨q,g1,fun w => by simpa [Builtin.max2] using g2 w⟩
 | .one .undef :: vs,_,_,_,_,_,hk => by simp [maxK] at hk
 | .one (.bool _) :: vs,_,_,_,_,_,hk => by simp [maxK] at hk
 | .one (.str _) :: vs,_,_,_,_,_,hk => by simp [maxK] at hk
 | .one (.list _ _) :: vs,_,_,_,_,_,hk => by simp [maxK] at hk
 | .one .nils :: vs,_,_,_,_,_,hk => by simp [maxK] at hk
 | .one (.clist _ _) :: vs,_,_,_,_,_,hk => by simp [maxK] at hk
 | .one (.ptr _ _) :: vs,_,_,_,_,_,hk => by simp [maxK] at hk
 | .one (.eptr _ _ _) :: vs,_,_,_,_,_,hk => by simp [maxK] at hk
 | .one (.vptr _ _ _) :: vs,_,_,_,_,_,hk => by simp [maxK] at hk
 | .one (.sl _ _) :: vs,_,_,_,_,_,hk => by simp [maxK] at hk
 | .agg _ :: vs,_,_,_,_,_,hk => by simp [maxK] at hk
 | .tup _ :: vs,_,_,_,_,_,hk => by simp [maxK] at hk
 | .skip :: vs,_,_,_,_,_,hk => by simp [maxK] at hk
theorem run_min:∀ (vs:List SVal) (xs:List Value) (j:IntKind) (z:Int) (k:SVal → Option R),SVRs w Φ β hp vs xs → minK k j z vs = some r →
  ∃ q,k (.one (.int j q)) = some r ∧ ∀ w,(xs.foldlM Builtin.min2 (.int j z)).run P w = .ok (.int j q) w
 | [],xs,j,z,k,h,hk => by cases h; exact ⟨z,by simpa [minK] using hk,fun w => by simp⟩
 | .one (.int j' b) :: vs,xs,j,z,k,⟨u,us,e,h1,h2⟩,hk => by
   subst e
   simp only [minK] at hk
   obtain ⟨q,g1,g2⟩:=run_min vs us j _ k h2 hk
   have hu:u = .int j' b:=h1
   subst hu
   exact ⟨q,g1,fun w => by simpa [Builtin.min2] using g2 w⟩
 | .one .undef :: vs,_,_,_,_,_,hk => by simp [minK] at hk
 | .one (.bool _) :: vs,_,_,_,_,_,hk => by simp [minK] at hk
 | .one (.str _) :: vs,_,_,_,_,_,hk => by simp [minK] at hk
 | .one (.list _ _) :: vs,_,_,_,_,_,hk => by simp [minK] at hk
 | .one .nils :: vs,_,_,_,_,_,hk => by simp [minK] at hk
 | .one (.clist _ _) :: vs,_,_,_,_,_,hk => by simp [minK] at hk
 | .one (.ptr _ _) :: vs,_,_,_,_,_,hk => by simp [minK] at hk
 | .one (.eptr _ _ _) :: vs,_,_,_,_,_,hk => by simp [minK] at hk
 | .one (.vptr _ _ _) :: vs,_,_,_,_,_,hk => by simp [minK] at hk
 | .one (.sl _ _) :: vs,_,_,_,_,_,hk => by simp [minK] at hk
 | .agg _ :: vs,_,_,_,_,_,hk => by simp [minK] at hk
 | .tup _ :: vs,_,_,_,_,_,hk => by simp [minK] at hk
 | .skip :: vs,_,_,_,_,_,hk => by simp [minK] at hk
theorem pstep_max (hr:Rel w0 Φ0 own0 N w Φ β s a)
  {c:Call} (ho:o.op = .call c) (hc:c.callee = .builtin .max ∨ c.callee = .builtin .min) (h:stepK cx o s k = some r):PStep P R (fun _ => True) w Φ β s a o k r:=by
 rcases hc with hc | hc
 · simp only [stepK,ho,hc] at h
   split at h
   case h_2 => cases h
   rename_i j z vs hev
   obtain ⟨u,us,e1,e2,e3⟩:=evalAll_sound hr _ _ hev
   have hu:u = .int j z:=e2
   subst hu
   obtain ⟨q,g1,g2⟩:=run_max (P:=P) vs us j z _ e3 h
   refine pstep g1 (v:=.int j q) (fun w _ => ?_) (by rfl)
   have hargs:(c.args.map a.eval).toList = .int j z :: us:=by rw [Array.toList_map]; exact e1
   have hm:(Builtin.max_ c.argTypes o.type (c.args.map a.eval)).run P w = .ok (.int j q) w:=by
    unfold Builtin.max_; rw [hargs]; exact g2 w
   simp [execOp,ho,resolve,hc,invoke,builtin,hm]
 · simp only [stepK,ho,hc] at h
   split at h
   case h_2 => cases h
   rename_i j z vs hev
   obtain ⟨u,us,e1,e2,e3⟩:=evalAll_sound hr _ _ hev
   have hu:u = .int j z:=e2
   subst hu
   obtain ⟨q,g1,g2⟩:=run_min (P:=P) vs us j z _ e3 h
   refine pstep g1 (v:=.int j q) (fun w _ => ?_) (by rfl)
   have hargs:(c.args.map a.eval).toList = .int j z :: us:=by rw [Array.toList_map]; exact e1
   have hm:(Builtin.min_ c.argTypes o.type (c.args.map a.eval)).run P w = .ok (.int j q) w:=by
    unfold Builtin.min_; rw [hargs]; exact g2 w
   simp [execOp,ho,resolve,hc,invoke,builtin,hm]
theorem step_max (hr:Rel w0 Φ0 own0 N w Φ β s a) (hN:∀ d,o.dst = some d → N.ok d) (hk:∀ s' a' w' Φ' β',Rel w0 Φ0 own0 N w' Φ' β' s' a' → k s' = some r → next a' w')
  {c:Call} (ho:o.op = .call c) (hc:c.callee = .builtin .max ∨ c.callee = .builtin .min) (h:stepK cx o s k = some r):o.wp P a w next Q :=
 (pstep_max hr ho hc h).wp hr trivial hN hk
theorem LfRs_oneCell:∀ {ls:List Leaf} {vs:List Value},LfRs w Φ β hp ls vs → ls.all Leaf.def = true → ∀ v ∈ vs,v.oneCell' = true
 | [],_,h,_,v,hv => by cases h; cases hv
 | l :: ls,_,⟨u,us,e,h1,h2⟩,hd,v,hv => by
   subst e
   simp only [List.all_cons,and_eq_true] at hd
   cases hv with
   | head => exact LfR_oneCell h1 hd.1
   | tail _ hm => exact LfRs_oneCell h2 hd.2 v hm
theorem VC_oneCell:∀ (t:CT) (x:t.denote) (vs:List Value),VC w Φ t x vs → ∀ v ∈ vs,v.oneCell' = true
 | .unit,_,_,h,v,hv => by cases h; cases hv
 | .int _,_,_,h,v,hv => by cases h; simp at hv; subst hv; rfl
 | .bool,_,_,h,v,hv => by cases h; simp at hv; subst hv; rfl
 | .str,_,_,⟨s,h,_⟩,v,hv => by cases h; simp at hv; subst hv; rfl
 | .list _,_,_,⟨_,_,h,_⟩,v,hv => by cases h; simp at hv; subst hv; rfl
 | .prod a b,x,_,⟨u,us,e,h1,h2⟩,v,hv => by
   subst e
   cases hv with
   | head => exact VC_oneCell a x.1 [u] h1 u (by simp)
   | tail _ hm => exact VC_oneCell b x.2 us h2 v hm
 | .sum _ _,_,_,h,_,_ => h.elim
 | .any _,_,_,⟨u,h,h1⟩,v,hv => by cases h; simp at hv; subst hv; exact h1
theorem Wrote.cells {w':World} {b o:Nat} {xs vs:List Value} (hw:Wrote w w' b o xs) {p:Nat} (h:cellsAt w b p vs) (vs':List Value) (hl:vs'.length = vs.length)
  (hv:∀ i,i < vs.length → vs'[i]? = if o ≤ p + i ∧ p + i < o + xs.length then xs[p + i - o]? else vs[i]?):cellsAt w' b p vs':=by
 refine cellsAt_of _ _ _ fun j v hj => ?_
 rw [hw.cell]
 rw [hv j (by have:=(List.getElem?_eq_some_iff.1 hj).1; omega)] at hj
 split
 · rename_i hc; rw [if_pos hc] at hj; exact hj
 · rename_i hc; rw [if_neg hc] at hj; exact cellsAt_get _ _ _ h j v hj
theorem Wrote.apart {w':World} {b o:Nat} {xs vs:List Value} (hw:Wrote w w' b o xs) {p:Nat} (h:cellsAt w b p vs) (hd:p + vs.length ≤ o ∨ o + xs.length ≤ p):cellsAt w' b p vs :=
 hw.cells h vs rfl fun i hi => by rw [if_neg (by omega)]
end
section
variable {P:Program} {R:Type} {w0:World} {Φ0 own0:Nat → Prop} {N:Frm} {w:World} {Φ:Nat → Prop} {β:Loc} {s:St} {a:Act} {hp:List (Nat × SObj)}
variable {cx:Cx} {o:Oper} {next:Act → World → Prop} {Q:Exit → Act → World → Prop} {k:St → Option R} {r:R}
theorem Wrote.mono {w':World} {b p:Nat} {xs:List Value} (hr:HpR w Φ β s) (hw:Wrote w w' b p xs) (hb:¬ Φ b) {id:Nat} {ob ob':SObj} (hl:look s.heap id = some ob) (hrow:rowOf (some ob') = rowOf (some ob)) :
  Mono w Φ β s.heap w' Φ β (s.put id ob').heap:=by
 refine ⟨fun b' hb' => hw.other b' (fun e => hb (e ▸ hb')),fun _ h => h,fun _ _ h => h,?_,?_⟩
 · intro j x hx r hr
   simp only [St.put,look_cons] at hr
   split at hr
   · rename_i e; subst e; rw [hl,← hrow]; exact hr
   · exact hr
 · intro j b' q r hb' hr
   by_cases e:b' = b
   · subst e; rw [hw.bs]
   · unfold blockSize; rw [hw.other b' e]
theorem Rel.write (hr:Rel w0 Φ0 own0 N w Φ β s a) {w':World} {b p q:Nat} {xs:List Value} {id:Nat} {ob ob':SObj} (hnr:ob.isRows = false) (hnr':ob'.isRows = false) (hl:look s.heap id = some ob) (hown:ob.owned = true) (hown':ob'.owned = true)
  (hb:β id = some (some (b,q))) (hh:s.held id = false) (hw:Wrote w w' b p xs) (hrow:rowOf (some ob') = rowOf (some ob)) (hΦ:¬ Φ b) (hob:ObR w' Φ β (s.put id ob').heap id ob'):Rel w0 Φ0 own0 N w' Φ β (s.put id ob') a:=by
 refine hr.turn hnr hnr' hl (.inl hown) hh w' Φ (hw.same hr.same (hr.mine hh hl hown hb)) hw.size (fun _ h => h) (fun _ h => .inl h) ?_ (fun b' hb' => hw.other b' (fun e => hΦ (e ▸ hb'))) ?_ (.inl hrow) hob
 · intro b' hb' hne
   exact hw.other b' (fun e => by subst e; exact hne hown q hb)
 · intro b' hb'
   by_cases e:b' = b
   · subst e; exact hw.bs
   · unfold blockSize; rw [hw.other b' e]
theorem splice_get {vs xs:List Value} {off:Nat} (h:off + xs.length ≤ vs.length) (i:Nat) :
  (vs.take off ++ xs ++ vs.drop (off + xs.length))[i]? = if off ≤ i ∧ i < off + xs.length then xs[i - off]? else vs[i]?:=by
 by_cases h1:i < off
 · rw [if_neg (by omega),List.append_assoc,List.getElem?_append_left (by simp; omega),List.getElem?_take,if_pos h1]
 · by_cases h2:i < off + xs.length
   · rw [if_pos (by omega),List.append_assoc,List.getElem?_append_right (by simp; omega),List.getElem?_append_left (by simp; omega)]
     simp [Nat.min_eq_left (show off ≤ vs.length by omega)]
   · rw [if_neg (by omega),List.getElem?_append_right (by simp; omega)]
     simp [Nat.min_eq_left (show off ≤ vs.length by omega)]
     congr 1; omega
theorem splice_len {vs xs:List Value} {off:Nat} (h:off + xs.length ≤ vs.length):(vs.take off ++ xs ++ vs.drop (off + xs.length)).length = vs.length:=by
 simp; omega
theorem row_apart {w':World} {b p o:Nat} {xs:List Value} (hw:Wrote w w' b p xs) (hΦ:¬ Φ b) {e:CT} {l:List e.denote} (h:RowAt w Φ e b o l) (hd:∀ i,i < l.length → o + i * e.size + e.size ≤ p ∨ p + xs.length ≤ o + i * e.size):RowAt w' Φ e b o l:=by
 intro i x hx
 obtain ⟨us,h1,h2⟩:=h i x hx
 have hi:i < l.length:=by rw [nth_getElem?] at hx; exact (List.getElem?_eq_some_iff.1 hx).1
 have hl:=VC_len _ _ _ h2
 exact ⟨us,hw.apart h1 (by rw [hl]; exact hd i hi),VC_mono (fun b' hb' => hw.other b' (fun e => hΦ (e ▸ hb'))) (fun _ h => h) _ _ _ h2⟩
theorem mul_lt_le {i j n:Nat} (h:i < j):i * n + n ≤ j * n:=by
 have:(i + 1) * n ≤ j * n:=Nat.mul_le_mul_right _ h
 rwa [Nat.add_mul,Nat.one_mul] at this
theorem step_storeK (hcx:CxOk P cx) (hr:Rel w0 Φ0 own0 N w Φ β s a) (hN:∀ d,o.dst = some d → N.ok d) (hk:∀ s' a' w' Φ' β',Rel w0 Φ0 own0 N w' Φ' β' s' a' → k s' = some r → next a' w')
  {t:TypeId} {x y:Operand} (ho:o.op = .store t x y) {td:TD} {v u:SVal} (htd:cx.tab t = some td) (hx:evalO s.env x = some v) (hy:evalO s.env y = some u) (h:storeK s td v u (fun s' => k (s'.set o.dst (.one .undef))) = some r):o.wp P a w next Q:=by
 have h1:=hr.eval hx
 have h2:=hr.eval hy
 have hok:=hcx.tab t _ htd
 have fin:∀ {w':World} {Φ':Nat → Prop} {s':St},Rel w0 Φ0 own0 N w' Φ' β s' a → (execOp a.eval o).run P w = .ok .skip w' → k (s'.set o.dst (.one .undef)) = some r → o.wp P a w next Q:=by
  intro w' Φ' s' hr' hrun hkk
  exact upon_skip hrun (hk _ _ _ _ _ (hr'.set (sv:=.one .undef) (v:=undef) trivial hN) hkk)
 have hrun:∀ {b p:Nat} {w':World},a.eval x = .pointer (some ⟨b,p,none⟩) → (storeVar t ⟨b,p,none⟩ (a.eval y)).run P w = .ok () w' → (execOp a.eval o).run P w = .ok .skip w':=by
  intro b p w' ev hst
  simp [execOp,ho,Instr.storeAt,ev,Instr.sureAddr,hst]
 unfold storeK at h
 split at h
 ·
  rename_i id off vs hvs
  split at h
  case h_2 => cases h
  rename_i cs hl
  obtain ⟨hb,h⟩:=cond_none h
  simp only [and_eq_true] at hb
  have hb1:vs.length = td.size:=Nat.eq_of_beq_eq_true hb.1
  have hb2:off + vs.length ≤ cs.length:=Nat.le_of_ble_eq_true hb.2.1
  have hdf:=hb.2.2.1
  have hh:s.held id = false:=by simpa using hb.2.2.2
  have hls:=leaves_SVR hvs h2 (.inl hdf)
  have hlen:=LfRs_len hls
  obtain ⟨b,hbb,ev⟩:=h1
  obtain ⟨b',us,hb',hnΦ,hfz,hc,hcs⟩:=hr.hp.ob id _ hl
  rw [hbb] at hb'; cases hb'
  have hul:=LfRs_len hcs
  have hcl:(a.eval y).cells.size = vs.length:=by simpa using hlen
  obtain ⟨w',g1,g2⟩:=run_storeVar (P:=P) (w:=w) hok (b:=b) (o:=off) (v:=a.eval y) (by omega) (LfRs_oneCell hls hdf)
   (fun j hj => by
     have hj':off + j < us.length:=by omega
     have:=cellsAt_get us 0 b hc (off + j) us[off + j] (by simp [hj'])
     rw [Nat.zero_add] at this
     rw [this]; rfl) hfz
  have hle:off + (a.eval y).cells.toList.length ≤ us.length:=by simp; omega
  have m:=g2.mono hr.hp hnΦ (id:=id) (ob':=.box (setMany cs off vs)) hl (by simp [rowOf,setMany_len])
  refine fin (hr.write rfl rfl hl rfl rfl hbb hh g2 (by simp [rowOf,setMany_len]) hnΦ ?_) (hrun ev g1) h
  refine ⟨b,_,hbb,hnΦ,g2.fz hfz,g2.cells hc (us.take off ++ (a.eval y).cells.toList ++ us.drop (off + (a.eval y).cells.toList.length)) (splice_len hle) (fun i _ => ?_),?_⟩
  · rw [splice_get hle]; simp only [Nat.zero_add]
  · exact LfRs_mono m _ _ (LfRs_set hcs hls hb2 (splice_len hle) (fun i => splice_get hle i))
 ·
  rename_i id i off vs hvs
  split at h
  case h_3 => cases h
  ·
   rename_i e l cs m hl
   replace h:=cond_none h
   obtain ⟨hb,h⟩:=h
   simp only [and_eq_true] at hb
   have hi:i = l.length:=Nat.eq_of_beq_eq_true hb.1
   subst hi
   have hb1:vs.length = td.size:=Nat.eq_of_beq_eq_true hb.2.1
   have hb2:off + vs.length ≤ cs.length:=Nat.le_of_ble_eq_true hb.2.2.1
   have hdf:=hb.2.2.2.1
   have hh:s.held id = false:=by simpa using hb.2.2.2.2
   have hls:=leaves_SVR hvs h2 (.inl hdf)
   have hlen:=LfRs_len hls
   have hcl:(a.eval y).cells.toList.length = vs.length:=hlen
   obtain ⟨loc,hloc,⟨q,hq⟩,hrw⟩:=h1
   obtain ⟨b,ob,e1,ev⟩:=hrw e.size _ (by rw [hl]; rfl)
   subst e1
   obtain ⟨b',p',us,hb',hnΦ,hfz,hpre,hc,hcs,husl,hpost⟩:=hr.hp.ob id _ hl
   rw [hloc] at hb'; cases hb'
   have hul:=LfRs_len hcs
   obtain ⟨w',g1,g2⟩:=run_storeVar (P:=P) (w:=w) hok (b:=b) (o:=ob + l.length * e.size + off) (v:=a.eval y) (by rw [← Array.length_toList]; omega) (LfRs_oneCell hls hdf)
    (fun j hj => by
      have hj':off + j < us.length:=by rw [← Array.length_toList] at hj; omega
      have:=cellsAt_get us _ b hc (off + j) us[off + j] (by simp [hj'])
      rw [← Nat.add_assoc] at this
      rw [this]; rfl) hfz
   have hle:off + (a.eval y).cells.toList.length ≤ us.length:=by omega
   have mm:=g2.mono hr.hp hnΦ (id:=id) (ob':=.zip e l (setMany cs off vs) m) hl rfl
   refine fin (hr.write (ob':=.zip e l (setMany cs off vs) m) rfl rfl hl rfl rfl hloc hh g2 rfl hnΦ ⟨b,ob,_,hloc,hnΦ,g2.fz hfz,?_,g2.cells hc (us.take off ++ (a.eval y).cells.toList ++ us.drop (off + (a.eval y).cells.toList.length)) (splice_len hle) (fun i _ => ?_),?_,by rw [splice_len hle]; exact husl,?_⟩) (hrun ev g1) h
   · refine row_apart g2 hnΦ hpre fun j hj => .inl ?_
     have:=mul_lt_le (n:=e.size) hj
     omega
   · rw [splice_get hle]
     by_cases hc2:off ≤ i ∧ i < off + (a.eval y).cells.toList.length
     · rw [if_pos hc2,if_pos (by omega)]; congr 1; omega
     · rw [if_neg hc2,if_neg (by omega)]
   · exact LfRs_mono mm _ _ (LfRs_set hcs hls hb2 (splice_len hle) (fun i => splice_get hle i))
   · refine row_apart g2 hnΦ hpost fun j hj => .inr ?_
     rw [Nat.add_mul]
     omega
  rename_i e l hl
  cases hzb:zipB s e.size vs
  case true =>
   rw [hzb,cond_true] at h
   replace h:=cond_none h
   obtain ⟨hb,h⟩:=h
   simp only [and_eq_true] at hb
   have hb1:vs.length = td.size:=Nat.eq_of_beq_eq_true hb.1
   have hb2:off + vs.length ≤ e.size:=Nat.le_of_ble_eq_true hb.2.1
   have hdf:=hb.2.2.1
   have hh:s.held id = false:=by simpa using hb.2.2.2
   have hls:=leaves_SVR hvs h2 (.inl hdf)
   have hlen:=LfRs_len hls
   have hcl:(a.eval y).cells.toList.length = vs.length:=hlen
   cases hn:nth l i with
   | none => rw [hn] at h; cases h
   | some xx =>
   rw [hn,Option.bind_some] at h
   have hil:i < l.length:=by rw [nth_getElem?] at hn; exact (List.getElem?_eq_some_iff.1 hn).1
   obtain ⟨loc,hloc,⟨q,hq⟩,hrw⟩:=h1
   obtain ⟨b,ob,e1,ev⟩:=hrw e.size l.length (by rw [hl]; rfl)
   subst e1
   rcases hr.hp.ob id _ hl with ⟨h3,_⟩ | ⟨b',p',h3,hnΦ,hfz,hrow⟩
   · rw [hloc] at h3; cases h3
   rw [hloc] at h3; cases h3
   obtain ⟨us,hc,hvx⟩:=hrow i xx hn
   have husl:=VC_len _ _ _ hvx
   have hun:=unpackL_LfRs (β:=β) (hp:=s.heap) e xx us hvx
   have hunl:=LfRs_len hun
   have hle:off + (a.eval y).cells.toList.length ≤ us.length:=by omega
   obtain ⟨w',g1,g2⟩:=run_storeVar (P:=P) (w:=w) hok (b:=b) (o:=ob + i * e.size + off) (v:=a.eval y) (by rw [← Array.length_toList]; omega) (LfRs_oneCell hls hdf)
    (fun j hj => by
      have hj':off + j < us.length:=by rw [← Array.length_toList] at hj; omega
      have:=cellsAt_get us _ b hc (off + j) us[off + j] (by simp [hj'])
      rw [← Nat.add_assoc] at this
      rw [this]; rfl) hfz
   have hrowq:rowOf (some (.zip e (l.take i) (setMany (unpackL e xx) off vs) (l.drop (i + 1)))) = rowOf (some (.arr e l)):=by
    simp only [rowOf,List.length_take,List.length_drop]
    congr 2; omega
   have hti:(l.take i).length = i:=by rw [List.length_take]; omega
   have mm:=g2.mono hr.hp hnΦ (id:=id) (ob':=.zip e (l.take i) (setMany (unpackL e xx) off vs) (l.drop (i + 1))) hl hrowq
   refine fin (hr.write rfl rfl hl rfl rfl hloc hh g2 hrowq hnΦ ⟨b,ob,us.take off ++ (a.eval y).cells.toList ++ us.drop (off + (a.eval y).cells.toList.length),hloc,hnΦ,g2.fz hfz,?_,?_,?_,by rw [splice_len hle]; exact husl,?_⟩) (hrun ev g1) h
   · have hpre:RowAt w Φ e b ob (l.take i):=fun j x hx => hrow j x (by
      rw [nth_getElem?] at hx ⊢
      rw [List.getElem?_take] at hx
      split at hx
      · exact hx
      · cases hx)
     refine row_apart g2 hnΦ hpre fun j hj => .inl ?_
     have:=mul_lt_le (n:=e.size) (show j < i by omega)
     omega
   · rw [hti]
     refine g2.cells hc _ (splice_len hle) (fun i _ => ?_)
     rw [splice_get hle]
     by_cases hc2:off ≤ i ∧ i < off + (a.eval y).cells.toList.length
     · rw [if_pos hc2,if_pos (by omega)]; congr 1; omega
     · rw [if_neg hc2,if_neg (by omega)]
   · exact LfRs_mono mm _ _ (LfRs_set hun hls (by omega) (splice_len hle) (fun i => splice_get hle i))
   · rw [hti]
     have hpost:RowAt w Φ e b (ob + (i + 1) * e.size) (l.drop (i + 1)):=fun j x hx => by
      rw [nth_getElem?,List.getElem?_drop] at hx
      obtain ⟨us',k1,k2⟩:=hrow (i + 1 + j) x (by rw [nth_getElem?]; exact hx)
      exact ⟨us',by rw [Nat.add_assoc ob,← Nat.add_mul]; exact k1,k2⟩
     refine row_apart g2 hnΦ hpost fun j hj => .inr ?_
     rw [Nat.add_mul]
     omega
  rw [hzb,cond_false] at h
  unfold storeA at h
  replace h:=cond_none h
  obtain ⟨hb,h⟩:=h
  simp only [and_eq_true] at hb
  have hb1:vs.length = td.size:=Nat.eq_of_beq_eq_true hb.1
  have hb2:off + vs.length ≤ e.size:=Nat.le_of_ble_eq_true hb.2.1
  have hls:=leaves_SVR hvs h2 (.inl hb.2.2)
  have hlen:=LfRs_len hls
  have hcl:(a.eval y).cells.toList.length = vs.length:=hlen
  obtain ⟨loc,hloc,⟨q,hq⟩,hrw⟩:=h1
  obtain ⟨b,ob,e1,ev⟩:=hrw e.size l.length (by rw [hl]; rfl)
  subst e1
  have go:∀ (z old:e.denote) (us:List Value) (Φ':Nat → Prop) (s':St),nth l i = some old → cellsAt w b (ob + i * e.size) us → us.length = e.size →
    Rel w0 Φ0 own0 N w Φ' β s' a → Packed w Φ β s Φ' s' → VC w Φ' e z (us.take off ++ (a.eval y).cells.toList ++ us.drop (off + (a.eval y).cells.toList.length)) →
    setK id i e z s' (fun s' => k (s'.set o.dst (.one .undef))) = some r → o.wp P a w next Q:=by
   intro z old us Φ' s' hold hus hul hr' hpk hz hset
   unfold setK at hset
   split at hset
   case h_2 => cases hset
   rename_i e' l' hl'
   have:=hpk.look id _ hl' rfl
   rw [hl] at this; cases this
   rw [dif_pos rfl] at hset
   cases hh:s'.held id with
   | true => rw [hh] at hset; cases hset
   | false =>
   rw [hh] at hset
   simp only [cond_false] at hset
   rcases hr'.hp.ob id _ hl' with ⟨h3,_⟩ | ⟨b',ob',h3,hnΦ,hfz,hrow⟩
   · rw [hloc] at h3; cases h3
   · rw [hloc] at h3; cases h3
     have hle:off + (a.eval y).cells.toList.length ≤ us.length:=by omega
     obtain ⟨w',g1,g2⟩:=run_storeVar (P:=P) (w:=w) hok (b:=b) (o:=ob + i * e.size + off) (v:=a.eval y) (by rw [← Array.length_toList]; omega) (LfRs_oneCell hls hb.2.2)
      (fun j hj => by
        have hj':off + j < us.length:=by rw [← Array.length_toList] at hj; omega
        have:=cellsAt_get us _ b hus (off + j) us[off + j] (by simp [hj'])
        rw [← Nat.add_assoc] at this
        rw [this]; rfl) hfz
     have m:=g2.mono hr'.hp hnΦ (id:=id) (ob':=.arr e (setNth l i z)) hl' (by simp [rowOf,setNth_len])
     refine fin (hr'.write (ob':=.arr e (setNth l i z)) rfl rfl hl' rfl rfl hloc hh g2 (by simp [rowOf,setNth_len]) hnΦ (.inr ⟨b,ob,hloc,hnΦ,g2.fz hfz,fun j xx hj => ?_⟩)) (hrun ev g1) hset
     rw [nth_getElem?,setNth_getElem?] at hj
     split at hj
     · rename_i hc
       obtain ⟨rfl,hlt⟩:=hc
       cases hj
       refine ⟨_,g2.cells hus _ (splice_len hle) (fun m _ => ?_),VC_mono m.frz m.sub _ _ _ hz⟩
       rw [splice_get hle]
       by_cases hc:off ≤ m ∧ m < off + (a.eval y).cells.toList.length
       · rw [if_pos hc,if_pos (by omega)]; congr 1; omega
       · rw [if_neg hc,if_neg (by omega)]
     · rename_i hc
       obtain ⟨us',hu1,hu2⟩:=hrow j xx (by rw [nth_getElem?]; exact hj)
       have hul':=VC_len _ _ _ hu2
       have hjl:j < l.length:=(List.getElem?_eq_some_iff.1 hj).1
       have hil:i < l.length:=by rw [nth_getElem?] at hold; exact (List.getElem?_eq_some_iff.1 hold).1
       have hne:j ≠ i:=fun e => hc ⟨e,hil⟩
       refine ⟨us',g2.apart hu1 ?_,VC_mono m.frz m.sub _ _ _ hu2⟩
       rcases Nat.lt_or_gt_of_ne hne with hlt | hgt
       · left
         have:(j + 1) * e.size ≤ i * e.size:=Nat.mul_le_mul_right _ hlt
         rw [Nat.add_mul] at this; omega
       · right
         have:(i + 1) * e.size ≤ j * e.size:=Nat.mul_le_mul_right _ hgt
         rw [Nat.add_mul] at this; omega
  have old:∀ {xx:e.denote},nth l i = some xx → ∃ us,cellsAt w b (ob + i * e.size) us ∧ VC w Φ e xx us:=by
   intro xx hxx
   rcases hr.hp.ob id _ hl with ⟨h3,_⟩ | ⟨b',ob',h3,_,_,hrow⟩
   · rw [hloc] at h3; cases h3
   · rw [hloc] at h3; cases h3; exact hrow i xx hxx
  cases hcc:(Nat.beq off 0 && Nat.beq vs.length e.size)
  case true =>
   rw [hcc] at h
   simp only [cond_true] at h
   simp only [and_eq_true] at hcc
   have h0:=Nat.eq_of_beq_eq_true hcc.1
   subst h0
   have hsz:=Nat.eq_of_beq_eq_true hcc.2
   split at h
   case h_2 => cases h
   rename_i z s' hpz
   obtain ⟨hlt,h⟩:=cond_none h
   rw [Nat.blt_eq] at hlt
   obtain ⟨Φ',p1,p2,p3⟩:=packL_sound hr hls hpz
   obtain ⟨us,hu1,hu2⟩:=old (xx:=l[i]) (by rw [nth_getElem?]; simp [hlt])
   have hul:=VC_len _ _ _ hu2
   refine go z l[i] us Φ' s' (by rw [nth_getElem?]; simp [hlt]) hu1 hul p1 p2 ?_ h
   have:us.take 0 ++ (a.eval y).cells.toList ++ us.drop (0 + (a.eval y).cells.toList.length) = (a.eval y).cells.toList:=by
    rw [List.drop_eq_nil_of_le (by omega)]; simp
   rw [this]; exact p3
  case false =>
   rw [hcc] at h
   simp only [cond_false] at h
   cases hn:nth l i with
   | none => rw [hn] at h; cases h
   | some xx =>
     rw [hn] at h
     simp only [Option.bind_some] at h
     split at h
     case h_2 => cases h
     rename_i z s' hpz
     obtain ⟨us,hu1,hu2⟩:=old hn
     have hul:=VC_len _ _ _ hu2
     have hle:off + (a.eval y).cells.toList.length ≤ us.length:=by omega
     have hun:=unpackL_LfRs (β:=β) (hp:=s.heap) e xx us hu2
     have hunl:=LfRs_len hun
     obtain ⟨Φ',p1,p2,p3⟩:=packL_sound hr (LfRs_set hun hls (by omega) (splice_len hle) (fun i => splice_get hle i)) hpz
     exact go z xx us Φ' s' hn hu1 hul p1 p2 p3 h
 · cases h
end
section
variable {P:Program} {R:Type} {w0:World} {Φ0 own0:Nat → Prop} {N:Frm} {w:World} {Φ:Nat → Prop} {β:Loc} {s:St} {a:Act} {hp:List (Nat × SObj)}
variable {cx:Cx} {o:Oper} {next:Act → World → Prop} {Q:Exit → Act → World → Prop} {k:St → Option R} {r:R}
theorem mono_adopt (h:HpR w Φ β s) (so:SObj) (x:Option (Nat × Nat)):Mono w Φ β s.heap w Φ (β.at s.next x) (s.new so).heap:=by
 refine ⟨fun b hb => rfl,fun _ h => h,?_,?_,fun _ _ _ _ _ _ => rfl⟩
 · intro id y hy
   have:id ≠ s.next:=fun e => by subst e; rw [h.none_next] at hy; cases hy
   simp [Loc.at,this,hy]
 · intro id y hy r hr
   have:s.next ≠ id:=fun e => by subst e; rw [h.none_next] at hy; cases hy
   simpa [St.new,look_cons,this] using hr
theorem Rel.adopt (h:Rel w0 Φ0 own0 N w Φ β s a) (so:SObj) (hso:so.isRows = false) (x:Option (Nat × Nat))
  (hx:∀ b p,x = some (b,p) → (∀ id ob q,look s.heap id = some ob → ob.owned = true → β id ≠ some (some (b,q))) ∧ b < w.heap.size ∧ (own0 b ∨ w0.heap.size ≤ b) ∧ ∀ id ob,look s.heap id = some ob → ¬ RowB w β id ob b)
  (ho:ObR w Φ (β.at s.next x) (s.new so).heap s.next so):Rel w0 Φ0 own0 N w Φ (β.at s.next x) (s.new so) a:=by
 have m:=mono_adopt h.hp so x
 have hat:∀ id,id ≠ s.next → (β.at s.next x) id = β id:=fun id e => by simp [Loc.at,e]
 have hnew:(β.at s.next x) s.next = some x:=by simp [Loc.at]
 have hlk:∀ id ob,look (s.new so).heap id = some ob → (id = s.next ∧ ob = so) ∨ (id ≠ s.next ∧ look s.heap id = some ob):=by
  intro id ob hl
  simp only [St.new,look_cons] at hl
  split at hl
  · rename_i e; exact .inl ⟨e.symm,by cases hl; rfl⟩
  · rename_i e; exact .inr ⟨fun e' => e e'.symm,hl⟩
 have hrl:∀ id ob c,look (s.new so).heap id = some ob → RowB w (β.at s.next x) id ob c → id ≠ s.next ∧ look s.heap id = some ob ∧ RowB w β id ob c:=by
  intro id ob c hl hc
  rcases hlk id ob hl with ⟨rfl,rfl⟩ | ⟨hne,hl⟩
  · exact absurd hc (RowB_none hso)
  · exact ⟨hne,hl,RowB_of (w:=w) (w':=w) (hat id hne) (fun _ _ _ => rfl) hc⟩
 refine ⟨fun t v hv => SVR_mono m _ _ (h.env t v hv),⟨?_,?_,?_,?_,?_,h.hp.flt,?_,?_⟩,?_,h.same,h.fri,h.fro,h.size,h.fix,h.defers,fun id y hy => ⟨(h.hold id y hy).1,by rw [hat id (fun e => by have:=h.hp.lt id y (h.hold id y hy).2; omega)]; exact (h.hold id y hy).2⟩,h.keep' m,fun id ob c hl hc => by
  obtain ⟨_,hl,hc⟩:=hrl id ob c hl hc
  exact h.rown id ob c hl hc⟩
 · intro id ob hl
   rcases hlk id ob hl with ⟨rfl,rfl⟩ | ⟨hne,hl⟩
   · exact ho
   · exact ObR_mono m (fun b q hb => rfl) (fun _ _ _ _ h => h) (fun _ _ => ⟨rfl,fun h => h⟩) (h.hp.ob id ob hl)
 · intro id y hy
   by_cases e:id = s.next
   · subst e; simp [St.new]
   · rw [hat id e] at hy; have:=h.hp.lt id y hy; simp [St.new]; omega
 · intro id ob hl
   rcases hlk id ob hl with ⟨rfl,rfl⟩ | ⟨hne,hl⟩
   · simp [St.new]
   · have:=h.hp.hlt id ob hl; simp [St.new]; omega
 · intro id id' ob ob' b q q' hl hl' ho1 ho2 hb hb'
   rcases hlk id ob hl with ⟨rfl,rfl⟩ | ⟨hne,hl2⟩ <;> rcases hlk id' ob' hl' with ⟨rfl,rfl⟩ | ⟨hne',hl2'⟩
   · rfl
   · rw [hnew] at hb; simp only [Option.some.injEq] at hb
     rw [hat id' hne'] at hb'; exact absurd hb' ((hx b q hb).1 id' ob' q' hl2' ho2)
   · rw [hnew] at hb'; simp only [Option.some.injEq] at hb'
     rw [hat id hne] at hb; exact absurd hb ((hx b q' hb').1 id ob q hl2 ho1)
   · rw [hat id hne] at hb; rw [hat id' hne'] at hb'; exact h.hp.inj id id' ob ob' b q q' hl2 hl2' ho1 ho2 hb hb'
 · intro id b q hb
   by_cases e:id = s.next
   · subst e; rw [hnew] at hb; simp only [Option.some.injEq] at hb; exact (hx b q hb).2.1
   · rw [hat id e] at hb; exact h.hp.blt id b q hb
 · intro id ob c hl hc
   obtain ⟨_,hl2,hc2⟩:=hrl id ob c hl hc
   obtain ⟨g1,g2,g3⟩:=h.hp.rin id ob c hl2 hc2
   refine ⟨g1,g2,fun id' ob' q hl' ho' hb => ?_⟩
   rcases hlk id' ob' hl' with ⟨e1,_⟩ | ⟨hne',hl3⟩
   · rw [e1,hnew] at hb; simp only [Option.some.injEq] at hb
     exact (hx c q hb).2.2.2 id ob hl2 hc2
   · rw [hat id' hne'] at hb; exact g3 id' ob' q hl3 ho' hb
 · intro id id' ob ob' c hl hl' hc hc'
   obtain ⟨_,hl,hc⟩:=hrl id ob c hl hc
   obtain ⟨_,hl',hc'⟩:=hrl id' ob' c hl' hc'
   exact h.hp.rinj id id' ob ob' c hl hl' hc hc'
 · intro id ob b q hl ho1 hb
   rcases hlk id ob hl with ⟨rfl,rfl⟩ | ⟨hne,hl⟩
   · rw [hnew] at hb; simp only [Option.some.injEq] at hb; exact (hx b q hb).2.2.1.elim .inl (fun h => .inr (.inl h))
   · rw [hat id hne] at hb; exact h.own id ob b q hl ho1 hb
theorem Rel.give (hr:Rel w0 Φ0 own0 N w Φ β s a) {id:Nat} {ob:SObj} (hnr:ob.isRows = false) (hl:look s.heap id = some ob) (hown:ob.owned = true) (hh:s.held id = false):Rel w0 Φ0 own0 N w Φ β (s.put id .dead) a :=
 hr.turn hnr rfl hl (.inl hown) hh w Φ hr.same rfl (fun _ h => h) (fun _ h => .inl h) (fun _ _ _ => rfl) (fun _ _ => rfl) (fun _ _ => rfl) (.inr rfl) trivial
theorem norow (hr:Rel w0 Φ0 own0 N w Φ β s a) {w':World} {id b p:Nat} {ob:SObj} (hl:look s.heap id = some ob) (hown:ob.owned = true) (hb:β id = some (some (b,p))) (hw:∀ b',b' ≠ b → w'.heap[b']? = w.heap[b']?) :
  ∀ id' ob',look (s.put id .dead).heap id' = some ob' → ¬ RowB w' β id' ob' b:=by
 intro id' ob' hl' hc
 simp only [St.put,look_cons] at hl'
 split at hl'
 · cases hl'; exact RowB_none rfl hc
 · rename_i hne
   have hown':ob'.owned = true:=by
    cases ho:ob'.isRows with
    | false => exact absurd hc (RowB_none ho)
    | true => cases ob' <;> first | rfl | cases ho
   have hc2:=RowB_of (w:=w) rfl (fun b2 q hb2 => hw b2 (fun e => by subst e; exact hne (hr.hp.inj id id' ob ob' _ p q hl hl' hown hown' hb hb2))) hc
   exact (hr.hp.rin id' ob' b hl' hc2).2.2 id ob p hl hown hb
theorem cellsAt_append:∀ (us vs:List Value) (b o:Nat),cellsAt w b o us → cellsAt w b (o + us.length) vs → cellsAt w b o (us ++ vs)
 | [],vs,b,o,_,h => by simpa using h
 | u :: us,vs,b,o,⟨h1,h2⟩,h => ⟨h1,cellsAt_append us vs b (o + 1) h2 (by simpa [Nat.add_assoc,Nat.add_comm 1] using h)⟩
def Flat (w:World) (Φ:Nat → Prop) (e:CT) (l:List e.denote) (vs:List Value):Prop :=
 vs.length = l.length * e.size ∧ (∀ v ∈ vs,v.oneCell' = true) ∧ ∀ i x,nth l i = some x → VC w Φ e x ((vs.drop (i * e.size)).take e.size)
theorem RowAt_flat {e:CT}:∀ (l:List e.denote) (b o:Nat),RowAt w Φ e b o l → ∃ vs,Flat w Φ e l vs ∧ cellsAt w b o vs
 | [],b,o,h => ⟨[],⟨by simp,by simp,fun i x hx => by simp [nth] at hx⟩,trivial⟩
 | x :: l,b,o,h => by
   obtain ⟨us,hu,hv⟩:=h 0 x rfl
   rw [Nat.zero_mul,Nat.add_zero] at hu
   have hul:=VC_len _ _ _ hv
   obtain ⟨vs,⟨f1,f2,f3⟩,f4⟩:=RowAt_flat l b (o + e.size) fun i y hy => by
    obtain ⟨us',h1,h2⟩:=h (i + 1) y (by simpa [nth] using hy)
    exact ⟨us',by rwa [show o + e.size + i * e.size = o + (i + 1) * e.size by rw [Nat.add_mul]; omega],h2⟩
   refine ⟨us ++ vs,⟨by simp [f1,hul,Nat.add_mul]; omega,fun v hv' => ?_,fun i y hy => ?_⟩,cellsAt_append us vs b o hu (by rw [hul]; exact f4)⟩
   · rcases List.mem_append.1 hv' with h | h
     · exact VC_oneCell _ _ _ hv v h
     · exact f2 v h
   · cases i with
     | zero => simp [nth] at hy; subst hy; rw [Nat.zero_mul,List.drop_zero,← hul,List.take_left]; exact hv
     | succ i =>
       have:=f3 i y (by simpa [nth] using hy)
       rw [show (i + 1) * e.size = us.length + i * e.size by rw [Nat.add_mul,hul]; omega,← List.drop_drop,List.drop_left]
       exact this
theorem Flat.rowAt {e:CT} {l:List e.denote} {vs:List Value} {w':World} {Φ':Nat → Prop} (h:Flat w Φ e l vs) {b o:Nat} (hc:cellsAt w' b o vs) (hΦ:∀ b,Φ b → w'.heap[b]? = w.heap[b]?) (hs:∀ b,Φ b → Φ' b):RowAt w' Φ' e b o l :=
 fun i x hx => ⟨_,drop_take_cellsAt hc (i * e.size) e.size,VC_mono hΦ hs _ _ _ (h.2.2 i x hx)⟩
theorem nth_append {α:Type} (l m:List α) (i:Nat):nth (l ++ m) i = if i < l.length then nth l i else nth m (i - l.length):=by
 simp only [nth_getElem?]
 split
 · rename_i h; exact List.getElem?_append_left h
 · rename_i h; exact List.getElem?_append_right (by omega)
theorem Flat.append {e:CT} {l m:List e.denote} {vs us:List Value} (h:Flat w Φ e l vs) (k:Flat w Φ e m us):Flat w Φ e (l ++ m) (vs ++ us):=by
 refine ⟨by simp [h.1,k.1,Nat.add_mul],fun v hv => ?_,fun i x hx => ?_⟩
 · rcases List.mem_append.1 hv with g | g
   · exact h.2.1 v g
   · exact k.2.1 v g
 · rw [nth_append] at hx
   split at hx
   · rename_i hi
     have h1:(i + 1) * e.size ≤ l.length * e.size:=Nat.mul_le_mul_right _ hi
     rw [Nat.add_mul] at h1
     rw [List.drop_append_of_le_length (by rw [h.1]; omega),List.take_append_of_le_length (by simp [h.1]; omega)]
     exact h.2.2 i x hx
   · rename_i hi
     have h1:vs.length ≤ i * e.size:=by rw [h.1]; exact Nat.mul_le_mul_right _ (by omega)
     have h2:vs.drop (i * e.size) = []:=List.drop_eq_nil_of_le h1
     rw [List.drop_append,h2,List.nil_append]
     have h3:i * e.size - vs.length = (i - l.length) * e.size:=by rw [h.1,← Nat.sub_mul]
     rw [h3]
     exact k.2.2 _ x hx
theorem src_sound (hr:Rel w0 Φ0 own0 N w Φ β s a) {e:CT} {y:SVal} {v:Value} {b:List e.denote} (hy:SVR w Φ β s.heap y v) (h:srcK e s y = some b) :
  ∃ aa cap,v = .slice aa b.length cap ∧ (b = [] ∨ ∃ blk o news,aa = some ⟨blk,o,none⟩ ∧ cellsAt w blk o news ∧ Flat w Φ e b news):=by
 have row:∀ {id:Nat} {r:Option (Nat × Nat)} {l:List e.denote},LfR w Φ β s.heap (.sl id r) v → rowOf (look s.heap id) = some (e.size,l.length) → (∀ blk p,β id = some (some (blk,p)) → RowAt w Φ e blk p l) → b = sub l r →
   ∃ aa cap,v = .slice aa b.length cap ∧ (b = [] ∨ ∃ blk o news,aa = some ⟨blk,o,none⟩ ∧ cellsAt w blk o news ∧ Flat w Φ e b news):=by
  intro id r l hlf hrw hat hbl
  obtain ⟨loc,hb,_,hs⟩:=hlf
  have hsl:=hs _ _ hrw
  cases loc with
  | none =>
    obtain ⟨⟨z,e1⟩,e2,e3⟩:=hsl
    have:l = []:=List.eq_nil_of_length_eq_zero e2
    subst this
    have:b = []:=by rw [hbl]; cases r <;> simp [sub]
    exact ⟨z,0,by rw [e1,this]; rfl,.inl this⟩
  | some bo =>
    obtain ⟨blk,ob⟩:=bo
    obtain ⟨o',cap,e1,e2,e3,e4,e5,_⟩:=hsl
    refine ⟨_,cap,by rw [e1,hbl,sub_len l r e4],?_⟩
    by_cases hn:b = []
    · exact .inl hn
    · right
      have hpos:0 < (r.getD (0,l.length)).2:=by
       rw [← sub_len l r e4,← hbl]; exact List.length_pos_iff.2 hn
      have ho:o' = ob + (r.getD (0,l.length)).1 * e.size:=by
       rcases e3 with e3 | e3
       · exact e3
       · omega
      have:RowAt w Φ e blk o' b:=by
       intro i x hx
       rw [hbl] at hx
       obtain ⟨us,h1,h2⟩:=hat blk ob hb _ x (sub_nth l r i x hx)
       exact ⟨us,by rw [ho]; rwa [show ob + (r.getD (0,l.length)).1 * e.size + i * e.size = ob + ((r.getD (0,l.length)).1 + i) * e.size by rw [Nat.add_mul]; omega],h2⟩
      obtain ⟨news,f1,f2⟩:=RowAt_flat b blk o' this
      exact ⟨blk,o',news,rfl,f2,f1⟩
 unfold srcK at h
 split at h
 · cases h; exact ⟨none,0,hy,.inl rfl⟩
 · rename_i e' l
   split at h
   case isFalse => cases h
   rename_i he; subst he; cases h
   obtain ⟨aa,cap,ev,hlc,hrow⟩:=hy
   simp only [List.cons.injEq,and_true] at ev
   refine ⟨aa,cap,ev,?_⟩
   rcases hrow with hrow | ⟨blk,ob,e1,e2,e3⟩
   · exact .inl hrow
   · obtain ⟨news,f1,f2⟩:=RowAt_flat l blk ob e3
     exact .inr ⟨blk,ob,news,e1,f2,f1⟩
 · rename_i e' l
   split at h
   case isFalse => cases h
   rename_i he; subst he; cases h
   obtain ⟨⟨aa,cap,ev,hlc,hrow⟩,_⟩:=hy
   simp only [List.cons.injEq,and_true] at ev
   refine ⟨aa,cap,ev,?_⟩
   rcases hrow with hrow | ⟨blk,ob,e1,e2,e3⟩
   · exact .inl hrow
   · obtain ⟨news,f1,f2⟩:=RowAt_flat l blk ob e3
     exact .inr ⟨blk,ob,news,e1,f2,f1⟩
 · rename_i id rr
   split at h
   · rename_i e' l hl
     split at h
     case isFalse => cases h
     rename_i he; subst he
     simp only [Option.some.injEq] at h
     refine row hy (by rw [hl]; rfl) (fun blk p hbp => ?_) h.symm
     rcases hr.hp.ob id _ hl with ⟨h3,_⟩ | ⟨b',p',h3,_,_,h6⟩
     · rw [hbp] at h3; cases h3
     · rw [hbp] at h3; cases h3; exact h6
   · rename_i e' l hl
     split at h
     case isFalse => cases h
     rename_i he; subst he
     simp only [Option.some.injEq] at h
     refine row hy (by rw [hl]; rfl) (fun blk p hbp => ?_) h.symm
     rcases hr.hp.ob id _ hl with ⟨h3,_⟩ | ⟨b',p',h3,_,h6⟩
     · rw [hbp] at h3; cases h3
     · rw [hbp] at h3; cases h3; exact h6
   · cases h
 · cases h
theorem most_fits {n by':Nat} (h:n ≤ most) (hb:by' ≤ 512):n * by' ≤ 140737488355328 :=
 Nat.le_trans (Nat.mul_le_mul (show n ≤ 274877906944 from h) hb) (by decide)
theorem zeros_size (z:Array Value) (n:Nat):(Builtin.zeroCells z n).size = n * z.size:=by simp [Builtin.zeroCells]
theorem run_append_here {t ty en:TypeId} {i:TypeInfo} (ht:P.underlying t = some (.slice en)) (hi:P.info? en = some i) {blk o' len cap:Nat} {q:Addr} {m c:Nat} {news:List Value}
  (hl:news.length = m * i.size) (hnews:(loadCells q (m * i.size)).run P w = .ok news.toArray w) (hroom:len + m ≤ cap) {w':World} (hst:(storeCells ⟨blk,o' + len * i.size,none⟩ news 0).run P w = .ok () w') :
  (Builtin.append_ #[t,t] ty #[.slice (some ⟨blk,o',none⟩) len cap,.slice (some q) m c]).run P w = .ok (.slice (some ⟨blk,o',none⟩) (len + m) cap) w':=by
 have hadd:(⟨blk,o',none⟩:Addr).add (len * i.size) = ⟨blk,o' + len * i.size,none⟩:=Addr.add0 _ _ _
 simp [Builtin.append_,run_underlying ht,sizeOf,run_info hi,Builtin.lenOf,hroom,Builtin.firstCells,hnews,hadd,hst]
theorem run_append_none {t ty en:TypeId} {i:TypeInfo} (ht:P.underlying t = some (.slice en)) (hi:P.info? en = some i) (x:Option Addr) (len cap:Nat) (hlc:len ≤ cap) (aa:Option Addr) (c:Nat) :
  (Builtin.append_ #[t,t] ty #[.slice x len cap,.slice aa 0 c]).run P w = .ok (.slice x len cap) w:=by
 cases x <;> cases aa <;> simp [Builtin.append_,run_underlying ht,sizeOf,run_info hi,Builtin.lenOf,hlc,Builtin.firstCells,loadCells,loadCellsFrom,storeCells]
theorem run_append_zero (w:World) (t ty e:TypeId) (i:TypeInfo) (z:Value) (ht:P.underlying t = some (.slice e)) (hi:P.info? e = some i) (hz:i.zero = some z) (z0:Option Addr)
  (q:Addr) (n c:Nat) (news:List Value) (hl:news.length = n * i.size) (hnews:∀ j v,news[j]? = some v → w.cell? (q.add j) = some v)
  (h0:0 < n) (h63:(n:Int) ≤ 9223372036854775807) (h48:n * i.bytes ≤ 281474976710656) :
  (Builtin.append_ #[t,t] ty #[.slice z0 0 0,.slice (some q) n c]).run P w =
    .ok (.slice (some ⟨w.heap.size,0,none⟩) n (grownCap w n 0 e)) (w.drew.alloc (.cells (news.toArray ++ Builtin.zeroCells z.cells (grownCap w n 0 e - n)) e)):=by
 cases z0 with
 | none => exact run_append_nil w t ty e i z ht hi hz q n c news hl hnews h0 h63 h48
 | some b =>
   have:=run_append_grow (P:=P) w t ty e i z ht hi hz b 0 0 [] (by simp) (fun j v h => by simp at h) q n c news hl hnews (by omega) (by simpa using h63) (by rw [Nat.zero_add,nextslicecap_zero h0]; exact h48)
   simpa using this
theorem append_run {c:Call} (ho:o.op = .call c) (hc:c.callee = .builtin .append) {x y:Operand} (ha:c.args = #[x,y]) {t:TypeId} (hat:c.argTypes = #[t,t]) {v:Value} {w':World}
  (h:(Builtin.append_ #[t,t] o.type #[a.eval x,a.eval y]).run P w = .ok v w'):(execOp a.eval o).run P w = .ok (.value v) w':=by
 simp [execOp,ho,resolve,hc,invoke,builtin,ha,hat,h]
theorem step_append (hcx:CxOk P cx) (hr:Rel w0 Φ0 own0 N w Φ β s a) (hN:∀ d,o.dst = some d → N.ok d) (hk:∀ s' a' w' Φ' β',Rel w0 Φ0 own0 N w' Φ' β' s' a' → k s' = some r → next a' w')
  {c:Call} (ho:o.op = .call c) (hc:c.callee = .builtin .append) (h:stepK cx o s k = some r):o.wp P a w next Q:=by
 simp only [stepK,ho,hc] at h
 split at h
 case h_2 => cases h
 rename_i x y t t' hargs hty
 replace h:=cond_none h
 obtain ⟨htt,h⟩:=h
 have htt:=Nat.eq_of_beq_eq_true htt
 subst htt
 split at h
 case h_2 => cases h
 rename_i e en v u htd hx hy
 replace h:=cond_none h
 obtain ⟨hpos,h⟩:=h
 rw [Nat.blt_eq] at hpos
 have ha:c.args = #[x,y]:=by rw [← Array.toList_inj]; simpa using hargs
 have hat:c.argTypes = #[t,t]:=by rw [← Array.toList_inj]; simpa using hty
 obtain ⟨_,hu,i,z,hi,hz,hby,_,g2⟩:=hcx.tab t _ htd
 obtain ⟨hsz,hwf,_,hco,hzs⟩:=g2 (fun e' => by subst e'; exact absurd hpos (by decide))
 have h1:=hr.eval hx
 have h2:=hr.eval hy
 unfold appendK at h
 split at h
 case h_2 => cases h
 rename_i b hsrc
 obtain ⟨aa,cy,ev,hsrc'⟩:=src_sound hr h2 hsrc
 have fin:∀ {v':Value} {w':World} {β':Loc} {s':St} {Φ':Nat → Prop} {sv:SVal},Rel w0 Φ0 own0 N w' Φ' β' s' a → (Builtin.append_ #[t,t] o.type #[a.eval x,a.eval y]).run P w = .ok v' w' → SVR w' Φ' β' s'.heap sv v' → k (s'.set o.dst sv) = some r → o.wp P a w next Q :=
  fun hr' hrun hsv hkk => alloc_step hN hk hkk hr' (append_run ho hc ha hat hrun) hsv
 have fresh:∀ {s1:St} {l:List e.denote} {olds news:List Value} {cap:Nat},Rel w0 Φ0 own0 N w Φ β s1 a → Flat w Φ e l (olds ++ news) → l.length ≤ cap →
   (Builtin.append_ #[t,t] o.type #[a.eval x,a.eval y]).run P w = .ok (.slice (some ⟨w.heap.size,0,none⟩) l.length cap) (w.drew.alloc (.cells (olds.toArray ++ news.toArray ++ Builtin.zeroCells z.cells (cap - l.length)) en)) →
   k ((s1.new (.arr e l)).set o.dst (.one (.sl s1.next none))) = some r → o.wp P a w next Q:=by
  intro s1 l olds news cap hr1 hfl hcap hrun hkk
  have hsize:(olds.toArray ++ news.toArray ++ Builtin.zeroCells z.cells (cap - l.length)).size = cap * e.size:=by
   have:=hfl.1
   simp only [List.length_append] at this
   simp only [Array.size_append,List.size_toArray,zeros_size,hzs,this,← Nat.add_mul]
   congr 1; omega
  obtain ⟨k1,k2⟩:=hr1.drew.newArr (e:=e) (l:=l) (cs:=olds.toArray ++ news.toArray ++ Builtin.zeroCells z.cells (cap - l.length)) en cap
   (fun j xx hj => by
     have hj':j < l.length:=by rw [nth_getElem?] at hj; exact (List.getElem?_eq_some_iff.1 hj).1
     have h3:(j + 1) * e.size ≤ l.length * e.size:=Nat.mul_le_mul_right _ hj'
     rw [Nat.add_mul] at h3
     have h4:=hfl.1
     simp only [Array.toList_append]
     rw [List.drop_append_of_le_length (by simp at h4 ⊢; omega),List.take_append_of_le_length (by simp at h4 ⊢; omega)]
     exact VC_mono (w:=w) (w':=w.drew) (fun _ _ => rfl) (fun _ h => h) _ _ _ (hfl.2.2 j xx hj)) (by rw [hsize]) hcap hpos
  exact fin (sv:=.one (.sl s1.next none)) k1 hrun k2 hkk
 have hgc:∀ (need old:Nat),need ≤ grownCap w need old en:=fun need old => grownCap_ge w need old en
 split at h
 ·
  rename_i hv
  have hxv:a.eval x = .slice none 0 0:=h1
  replace h:=cond_none h
  obtain ⟨hm,h⟩:=h
  have hm:=Nat.le_of_ble_eq_true hm
  rcases hsrc' with hb | ⟨blk,oo,news,e1,e2,e3⟩
  · subst hb
    refine fin (hr.adopt (.arr e []) rfl none (fun _ _ h => by cases h) (.inl ⟨by simp [Loc.at],rfl⟩)) (v':=.slice none 0 0) (by rw [hxv,ev]; exact run_append_none hu hi none 0 0 (Nat.le_refl _) aa cy) ?_ h
    refine ⟨none,by simp [Loc.at],⟨_,_,_,rfl⟩,fun sz n hrw => ?_⟩
    simp only [St.new,look_cons,if_true,rowOf] at hrw
    cases hrw
    exact ⟨⟨_,rfl⟩,rfl,rfl⟩
  · by_cases hb:b = []
    · subst hb
      refine fin (hr.adopt (.arr e []) rfl none (fun _ _ h => by cases h) (.inl ⟨by simp [Loc.at],rfl⟩)) (v':=.slice none 0 0) (by rw [hxv,ev]; exact run_append_none hu hi none 0 0 (Nat.le_refl _) aa cy) ?_ h
      refine ⟨none,by simp [Loc.at],⟨_,_,_,rfl⟩,fun sz n hrw => ?_⟩
      simp only [St.new,look_cons,if_true,rowOf] at hrw
      cases hrw
      exact ⟨⟨_,rfl⟩,rfl,rfl⟩
    · have hbl:0 < b.length:=List.length_pos_iff.2 hb
      have hfit:=most_fits hm hby
      have hmm:b.length ≤ 274877906944:=hm
      have hrun:=run_append_nil (P:=P) w t o.type en i z hu hi hz ⟨blk,oo,none⟩ b.length cy news (by rw [hsz]; exact e3.1) (fun j vv hj => by rw [Addr.add0]; exact cellsAt_get _ _ _ e2 j vv hj) hbl (by omega) (by omega)
      refine fresh (s1:=s) (l:=b) (olds:=[]) (news:=news) (cap:=grownCap w b.length 0 en) hr (by simpa using e3) (hgc _ _) ?_ h
      rw [hxv,ev,e1]; simpa using hrun
 ·
  rename_i e' l
  split at h
  case isFalse => cases h
  rename_i he; subst he
  replace h:=cond_none h
  obtain ⟨hm,h⟩:=h
  simp only [and_eq_true] at hm
  obtain ⟨hm,hbl⟩:=hm
  have hm:=Nat.le_of_ble_eq_true hm
  rw [Nat.blt_eq] at hbl
  obtain ⟨⟨a0,cap0,ev0,hlc0,hrow0⟩,a1,ev1⟩:=h1
  rcases hsrc' with hb' | ⟨blk,oo,news,f1,f2,f3⟩
  · rw [hb'] at hbl; exact absurd hbl (Nat.lt_irrefl _)
  have hfit:=most_fits hm hby
  have hmm:l.length + b.length ≤ 274877906944:=hm
  by_cases hl0:l = []
  · subst hl0
    have hfit0:b.length * i.bytes ≤ 281474976710656 ∨ True:=.inr trivial
    have hm0:b.length ≤ most:=by simpa using hm
    have hfit1:=most_fits hm0 hby
    have hrun:=run_append_zero (P:=P) w t o.type en i z hu hi hz a1 ⟨blk,oo,none⟩ b.length cy news (by rw [hsz]; exact f3.1) (fun j vv hj => by rw [Addr.add0]; exact cellsAt_get _ _ _ f2 j vv hj) hbl (by omega) (by omega)
    refine fresh (s1:=s) (l:=[] ++ b) (olds:=[]) (news:=news) (cap:=grownCap w b.length 0 en) hr (by simpa using f3) (by simp [hgc]) ?_ h
    rw [ev1,ev,f1]; simpa using hrun
  · rcases hrow0 with h0 | ⟨b0,o0,e1,e2,e3⟩
    · exact absurd h0 hl0
    simp only [List.cons.injEq,and_true] at ev0
    rw [ev1] at ev0
    simp only [Value.slice.injEq] at ev0
    rw [e1] at ev0
    obtain ⟨olds,fo,co⟩:=RowAt_flat l b0 o0 e3
    have hrun:=run_append_grow (P:=P) w t o.type en i z hu hi hz ⟨b0,o0,none⟩ l.length l.length olds (by rw [hsz]; exact fo.1) (fun j vv hj => by rw [Addr.add0]; exact cellsAt_get _ _ _ co j vv hj)
     ⟨blk,oo,none⟩ b.length cy news (by rw [hsz]; exact f3.1) (fun j vv hj => by rw [Addr.add0]; exact cellsAt_get _ _ _ f2 j vv hj) (by omega) (by omega) (growslice_fits (by omega) hfit)
    refine fresh (s1:=s) (l:=l ++ b) (olds:=olds) (news:=news) (cap:=grownCap w (l.length + b.length) l.length en) hr (fo.append f3) (by simp [hgc]) ?_ h
    rw [ev1,ev0.1,ev,f1,hrun]
    simp
 ·
  rename_i id rr
  split at h
  case h_2 => cases h
  rename_i e' l hl
  split at h
  case isFalse => cases h
  rename_i he; subst he
  replace h:=cond_none h
  obtain ⟨hm,h⟩:=h
  simp only [and_eq_true,Bool.or_eq_true] at hm
  obtain ⟨hm,hrb,hh0⟩:=hm
  have hh:s.held id = false:=by simpa using hh0
  have hm:=Nat.le_of_ble_eq_true hm
  obtain ⟨loc,hloc,_,hs⟩:=h1
  have hsl:=hs e'.size l.length (by rw [hl]; rfl)
  have hgive:=hr.give rfl hl rfl hh
  have hfree:∀ b' p,β id = some (some (b',p)) → (∀ id' ob q,look (s.put id .dead).heap id' = some ob → ob.owned = true → β id' ≠ some (some (b',q))) ∧ b' < w.heap.size ∧ (own0 b' ∨ w0.heap.size ≤ b'):=by
   intro b' p hp
   refine ⟨fun id' ob q hl' ho' hq => ?_,hr.hp.blt id b' p hp,hr.mine hh hl rfl hp⟩
   simp only [St.put,look_cons] at hl'
   split at hl'
   · cases hl'; cases ho'
   · rename_i hne; exact hne (hr.hp.inj id id' _ _ b' p q hl hl' rfl ho' hp hq)
  have hnx:(s.put id .dead).next = s.next:=rfl
  cases loc with
  | none =>
    obtain ⟨⟨z0,e1⟩,e2,e3⟩:=hsl
    have hl0:l = []:=List.eq_nil_of_length_eq_zero e2
    subst hl0
    have hsub:sub ([]:List e'.denote) rr = []:=by cases rr <;> simp [sub]
    simp only [hsub,List.nil_append] at h
    by_cases hb:b = []
    · subst hb
      refine fin (hgive.adopt (.arr e' []) rfl none (fun _ _ h => by cases h) (.inl ⟨by simp [Loc.at,St.put],rfl⟩)) (v':=.slice z0 0 0) (by rw [e1,ev]; exact run_append_none hu hi z0 0 0 (Nat.le_refl _) aa cy) ?_ h
      refine ⟨none,by simp [Loc.at,St.put],⟨_,_,_,rfl⟩,fun sz n hrw => ?_⟩
      simp only [St.new,St.put,look_cons,if_true,rowOf] at hrw
      cases hrw
      exact ⟨⟨_,rfl⟩,rfl,rfl⟩
    · rcases hsrc' with hb' | ⟨blk,oo,news,f1,f2,f3⟩
      · exact absurd hb' hb
      · have hbl:0 < b.length:=List.length_pos_iff.2 hb
        rw [hsub] at hm
        have hm':b.length ≤ most:=by simpa using hm
        have hfit:=most_fits hm' hby
        have hmm:b.length ≤ 274877906944:=hm'
        have hrun:=run_append_zero (P:=P) w t o.type en i z hu hi hz z0 ⟨blk,oo,none⟩ b.length cy news (by rw [hsz]; exact f3.1) (fun j vv hj => by rw [Addr.add0]; exact cellsAt_get _ _ _ f2 j vv hj) hbl (by omega) (by omega)
        refine fresh (s1:=s.put id .dead) (l:=b) (olds:=[]) (news:=news) (cap:=grownCap w b.length 0 en) hgive (by simpa using f3) (hgc _ _) ?_ h
        rw [e1,ev,f1]; simpa using hrun
  | some bo =>
    obtain ⟨blk0,ob⟩:=bo
    obtain ⟨o',cap,e1,e2,e3,e4,e5,e6⟩:=hsl
    rcases hr.hp.ob id _ hl with ⟨h3,_⟩ | ⟨b',p',h3,hnΦ,hfz,hrow⟩
    · rw [hloc] at h3; cases h3
    rw [hloc] at h3; cases h3
    have hlen:=sub_len l rr e4
    have hrow':RowAt w Φ e' blk0 o' (sub l rr):=by
     intro j xx hj
     have hj':j < (sub l rr).length:=by rw [nth_getElem?] at hj; exact (List.getElem?_eq_some_iff.1 hj).1
     obtain ⟨us,k1,k2⟩:=hrow _ xx (sub_nth l rr j xx hj)
     refine ⟨us,?_,k2⟩
     rcases e3 with e3 | e3
     · rw [e3]; rwa [show ob + (rr.getD (0,l.length)).1 * e'.size + j * e'.size = ob + ((rr.getD (0,l.length)).1 + j) * e'.size by rw [Nat.add_mul]; omega]
     · omega
    obtain ⟨olds,fo,co⟩:=RowAt_flat (sub l rr) blk0 o' hrow'
    have hsame:∀ {w':World} {xs:List Value} {p:Nat},Wrote w w' blk0 p xs → RowAt w' Φ e' blk0 o' (sub l rr ++ b) →
      (Builtin.append_ #[t,t] o.type #[a.eval x,a.eval y]).run P w = .ok (.slice (some ⟨blk0,o',none⟩) ((sub l rr).length + b.length) cap) w' → (sub l rr).length + b.length ≤ cap → o.wp P a w next Q:=by
     intro w' xs p hw hat' hrun hcap
     have hr1:Rel w0 Φ0 own0 N w' Φ β (s.put id .dead) a:=by
      refine hr.turn rfl rfl hl (.inl rfl) hh w' Φ (hw.same hr.same (hr.mine hh hl rfl hloc)) hw.size (fun _ h => h) (fun _ h => .inl h) ?_ (fun b' hb' => hw.other b' (fun e => hnΦ (e ▸ hb'))) ?_ (.inr rfl) trivial
      · intro b' hb' hne
        exact hw.other b' (fun e => by subst e; exact hne rfl ob hloc)
      · intro b' hb'
        by_cases e:b' = blk0
        · subst e; exact hw.bs
        · unfold blockSize; rw [hw.other b' e]
     have hr2:=hr1.adopt (.arr e' (sub l rr ++ b)) rfl (some (blk0,o')) (fun b' p hbp => by
      cases hbp
      obtain ⟨g1,g2,g3⟩:=hfree blk0 ob hloc
      exact ⟨g1,by rw [hw.size]; exact g2,g3,norow hr hl rfl hloc (fun b'' hne => hw.other b'' hne)⟩) (.inr ⟨blk0,o',by simp [Loc.at,St.put],hnΦ,hw.fz hfz,hat'⟩)
     refine fin hr2 hrun ?_ h
     refine ⟨some (blk0,o'),by simp [Loc.at,St.put],⟨_,_,_,rfl⟩,fun sz n hrw => ?_⟩
     simp only [St.new,St.put,look_cons,if_true,rowOf] at hrw
     cases hrw
     have hbs:o' + cap * e'.size = blockSize w blk0:=by
      rcases hrb with hrb | hrb
      · have:=e6 (by simpa using hrb); rw [this.1]; exact this.2.1
      · rw [Nat.blt_eq] at hrb
        rcases e5 with e5 | e5
        · exact e5
        · omega
     exact ⟨o',cap,by simp,by simp; omega,.inl (by simp),by simp,.inl (by rw [hw.bs]; exact hbs),fun _ => ⟨rfl,by rw [hw.bs]; exact hbs,hpos⟩⟩
    by_cases hb:b = []
    · subst hb
      refine hsame (Wrote.nil w blk0 0) (by simpa using hrow') ?_ (by simp; omega)
      rw [e1,ev,hlen]
      simpa using run_append_none hu hi (some ⟨blk0,o',none⟩) _ cap e2 aa cy
    · rcases hsrc' with hb' | ⟨blk,oo,news,f1,f2,f3⟩
      · exact absurd hb' hb
      have hbl:0 < b.length:=List.length_pos_iff.2 hb
      have hfit:=most_fits hm hby
      have hmm:(sub l rr).length + b.length ≤ 274877906944:=hm
      by_cases hroom:(sub l rr).length + b.length ≤ cap
      ·
       have hnl:=f3.1
       have holdl:=fo.1
       obtain ⟨w',g1,g2⟩:=run_storeCells (P:=P) news blk0 (o' + (sub l rr).length * e'.size) 0 w f3.2.1 (fun j hj => by
        have h5:o' + ((sub l rr).length + b.length) * e'.size ≤ blockSize w blk0:=by
         rcases e5 with e5 | e5
         · rw [← e5]; exact Nat.add_le_add_left (Nat.mul_le_mul_right _ hroom) _
         · omega
        rw [Nat.add_mul] at h5
        have hlt:o' + (sub l rr).length * e'.size + 0 + j < blockSize w blk0:=by omega
        unfold blockSize at hlt
        cases hbk:w.heap[blk0]? with
        | none => rw [hbk] at hlt; exact absurd hlt (by simp)
        | some obj =>
          rw [hbk] at hlt
          cases obj with
          | cells cc ct cf =>
            simp only [World.cell?,hbk]
            simp; exact hlt
          | _ => exact absurd hlt (Nat.not_lt_zero _)) hfz
       simp only [Nat.add_zero] at g2
       refine hsame g2 ?_ ?_ hroom
       · have c1:=g2.apart co (.inl (by rw [holdl]; exact Nat.le_refl _))
         have c2:cellsAt w' blk0 (o' + olds.length) news:=cellsAt_of _ _ _ fun j vv hj => by
          have hjl:=(List.getElem?_eq_some_iff.1 hj).1
          have hix:o' + olds.length + j - (o' + (sub l rr).length * e'.size) = j:=by rw [holdl]; omega
          rw [g2.cell,if_pos ⟨by rw [holdl]; omega,by rw [holdl]; omega⟩,hix]; exact hj
         exact (fo.append f3).rowAt (cellsAt_append _ _ _ _ c1 c2) (fun b' hb' => g2.other b' (fun e => hnΦ (e ▸ hb'))) (fun _ h => h)
       · rw [e1,ev,f1,← hlen]
         have hld:(loadCells ⟨blk,oo,none⟩ (b.length * i.size)).run P w = .ok news.toArray w:=by
          have:=run_loadCells_at (P:=P) f2
          rwa [hnl,← hsz] at this
         rw [← hsz] at g1
         exact run_append_here hu hi (by rw [hsz]; exact hnl) hld hroom g1
      ·
       have hrun:=run_append_grow (P:=P) w t o.type en i z hu hi hz ⟨blk0,o',none⟩ (sub l rr).length cap olds (by rw [hsz]; exact fo.1) (fun j vv hj => by rw [Addr.add0]; exact cellsAt_get _ _ _ co j vv hj)
        ⟨blk,oo,none⟩ b.length cy news (by rw [hsz]; exact f3.1) (fun j vv hj => by rw [Addr.add0]; exact cellsAt_get _ _ _ f2 j vv hj) (by omega) (by omega) (growslice_fits (by omega) hfit)
       refine fresh (s1:=s.put id .dead) (l:=sub l rr ++ b) (olds:=olds) (news:=news) (cap:=grownCap w ((sub l rr).length + b.length) cap en) hgive (fo.append f3) (by simp [hgc]) ?_ h
       rw [e1,ev,f1,← hlen,hrun]
       simp
 · cases h
end
end Go.Bm
end
