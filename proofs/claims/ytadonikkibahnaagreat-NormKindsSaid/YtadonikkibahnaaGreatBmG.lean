import Derived.Test.YtadonikkibahnaaGreatBmE
import Derived.Test.YtadonikkibahnaaGreatBmA
import Derived.Test.YtadonikkibahnaaGreatBmB
section
open Option (bind_some)
namespace Go.Bm
set_option linter.unusedVariables false
set_option linter.unusedSimpArgs false
theorem putObj_put (w:World) (l:Nat) (o o':Obj):(w.putObj l o).putObj l o' = w.putObj l o':=by
 simp [World.putObj]
theorem putObj_self {w:World} {l:Nat} {o:Obj} (h:w.heap[l]? = some o):w.putObj l o = w:=by
 have:w.heap.setIfInBounds l o = w.heap:=by
  apply Array.ext_getElem?
  intro i
  rw [Array.getElem?_setIfInBounds]
  split
  · rename_i e; subst e; rw [h]; simp [(Array.getElem?_eq_some_iff.1 h).1]
  · rfl
 show { w with heap:=w.heap.setIfInBounds l o } = w
 rw [this]
theorem ExR.act {A:Ex → Tm → List Dyn → List Value → Prop} {a a':Act}:∀ {l:List (Ex × List Nat × Tm)} {y:(exitsT l).denote},(∀ x ∈ l,x.2.1 = []) → ExR (fun e slots T ds => A e T ds (slotVals a slots)) l y → ExR (fun e slots T ds => A e T ds (slotVals a' slots)) l y
 | [],_,_,g => g
 | [(e,slots,T')],y,h,g => by
   have:slots = []:=h _ List.mem_cons_self
   subst this; exact g
 | (e,slots,T') :: b :: r,.inl x,h,g => by
   have:slots = []:=h _ List.mem_cons_self
   subst this; exact g
 | (e,slots,T') :: b :: r,.inr x,h,g => ExR.act (l:=b :: r) (fun x hx => h x (List.mem_cons_of_mem _ hx)) g
section
variable {P:Program} {cx:Cx} {H:Hn}
structure RngCode (cx:Cx) (H:Hn) (n κ κ2:Nat) (g:Operand) (p q:Nat) (assign body:Code):Prop where
 pa:plainC assign = true
 pb:plainC body = true
 ba:Bound [] n assign = true
 bp:p < n
 bq:q < n
 fp:Bound [p] n (.seq assign body) = true
 fg:∃ t,g = .tmp t ∧ t ≠ p ∧ t ≠ q ∧ Bound [t] n (.seq assign body) = true
 fs:∀ t ∈ (cx.bk κ).slots,t ≠ p → t ≠ q → Bound [t] n (.seq assign body) = true
 ex:∀ x ∈ (cx.bk κ).exits,x.2.1 = []
 keep:∀ t ∈ (cx.bk κ2).keep,Bound [t] n body = true
theorem range_sound (hok:AllOk P cx) {n κ κ2 id2 p0 q0:Nat} {g:Operand} {assign c2:Code} (hc:RngCode cx H n κ κ2 g p0 q0 assign (.block id2 c2)) (hh:Hints P cx n H assign) (hκ2:H.lk id2 = some κ2) (hblk:BlkOk P cx n κ2 (.block id2 c2))
  (ih:RangeOk P cx n κ g #[p0,q0] assign (.block id2 c2)) {d:(cx.bk κ).ins.ct.denote} {y:(exitsT (cx.bk κ).exits).denote} (h:evBlk cx H κ (.range g [p0,q0] assign (.block id2 c2)) d = some y) :
 ∀ (w:World) (Φ:Nat → Prop) (a0:Act) (γ:Loc) (fix:Nat → Option Value) (B l dB k p q f b:Nat) (fn:FuncId) (u v:Value) (e:CT) (agg:Bool) (xs:List e.denote),
 (∀ t v,fix t = some v → a0.tmps.getD t undef = v) → a0.tmps.size = n → B ≤ w.heap.size → DefR B w Φ a0.defers → cx.gp w Φ →
 #[p0,q0] = #[p,q] → p ≠ q → a0.eval g = .func (.func f) #[] #[.pointer (some ⟨b,0,none⟩)] → cx.it f = some (e,agg) →
 w.cell? ⟨b,0,none⟩ = some v → VC w Φ (.list e) xs [v] → k < xs.length → RdEl e agg v k u w →
 w.heap[l]? = some (.loop (recOf fn a0.tmps #[p0,q0] assign (.block id2 c2) dB .ready none)) → ¬ Φ l → w.heap[dB]? = some (.deferred (some [])) → ¬ Φ dB →
 InstR w Φ (cx.bk κ).ins (fromD (cx.bk κ).ins.cts d) (slotVals (rndAct a0 p q k u) (cx.bk κ).slots) γ →
 Iter P l e agg b (k + 1) w fun done w' => w'.heap[l]? = some (.loop (recOf fn a0.tmps #[p0,q0] assign (.block id2 c2) dB (if done then .ready else .done) (if done then none else some .ret))) ∧ w'.heap[dB]? = some (.deferred (some [])) ∧
  BEnd cx κ n fix B w Φ γ (fromD (cx.bk κ).ins.cts d) y (if done then .normal else .ret) a0 (w'.putObj l (.loop (recOf fn a0.tmps #[p0,q0] assign (.block id2 c2) dB .ready none))):=by
 intro w Φ a0 γ fix B l dB k p q f b fn u v e agg xs hfix hsz hBw hdef hgp hps hpq hg hit hcell hvc hkx hel hL hnl hD hnd hi
 simp only [Array.mk.injEq,List.cons.injEq,and_true] at hps
 obtain ⟨rfl,rfl⟩:=hps
 obtain ⟨rec,hrec⟩:∃ rec:LoopState → Option Code → Loop,rec = recOf fn a0.tmps #[p0,q0] assign (.block id2 c2) dB:=⟨_,rfl⟩
 rw [← hrec] at hL ⊢
 have hlt:l < w.heap.size:=(Array.getElem?_eq_some_iff.1 hL).1
 have hdlt:dB < w.heap.size:=(Array.getElem?_eq_some_iff.1 hD).1
 have hdl:dB ≠ l:=fun e => by rw [e,hL] at hD; cases hD
 have hnOl:¬ OwnH w γ ((cx.bk κ).ins.heap (fromD (cx.bk κ).ins.cts d)) l:=OwnH_off hi hL rfl
 have hnOd:¬ OwnH w γ ((cx.bk κ).ins.heap (fromD (cx.bk κ).ins.cts d)) dB:=OwnH_off hi hD rfl
 have hps2:p0 < a0.tmps.size:=by rw [hsz]; exact hc.bp
 have hqs2:q0 < a0.tmps.size:=by rw [hsz]; exact hc.bq
 have hget:=fun t => getD_rnd (a:=a0) (k:=k) (u:=u) hps2 hqs2 hpq t
 refine ⟨xs,v,u,hcell,⟨Φ,hvc⟩,hkx,hel,fn,(rndAct a0 p0 q0 k u).tmps,assign,.block id2 c2,?_,roundIn_of_wpIn trivial ?_⟩
 · have:=run_yield (P:=P) (args:=#[.int .i64 k,u]) hL (by rw [hrec]; rfl)
   rw [hrec] at this
   rw [this]; simp [recOf,rndAct]
 haveI:=GlobR.enter hok.gpm hgp hi
 let fixR:Nat → Option Value:=fun t => if Bound [t] n (.seq assign (.block id2 c2)) = true then some ((rndAct a0 p0 q0 k u).tmps.getD t undef) else none
 have hfixR:∀ t v,fixR t = some v → Bound [t] n (.seq assign (.block id2 c2)) = true ∧ (rndAct a0 p0 q0 k u).tmps.getD t undef = v:=fun t v hv => by
  simp only [fixR] at hv
  split at hv
  · rename_i hb; cases hv; exact ⟨hb,rfl⟩
  · cases hv
 have hszR:(rndAct a0 p0 q0 k u).tmps.size = n:=by simp [rndAct,hsz]
 have hr0:=inst_base (a:=rndAct a0 p0 q0 k u) (slots:=(cx.bk κ).slots) (fix:=fixR) (n:=n) hi hszR (fun t v hv => (hfixR t v hv).2) (DefR.nil w.heap.size w Φ)
 simp only [evBlk] at h
 refine ev_sound (rd:=some l) hok (N:=⟨n,fixR,fun _ _ => False,Stays (cx.bk κ).ins,w,γ,(cx.bk κ).ins.heap (fromD (cx.bk κ).ins.cts d),w.heap.size,[]⟩) (fun _ _ h => h) (Nat.le_refl _) rfl assign (.inr hc.pa) (.inr (fun ⟨_,_,h⟩ => h)) hc.ba
  (fun t v hv => (Bound_seq (hfixR t v hv).1).1) hh hr0 (fun ex s1 a1 w1 Φ1 β1 hr1 he => ?_) h
 have fixD:∀ {wv:World} {Φ2:Nat → Prop},Same w (OwnH w γ ((cx.bk κ).ins.heap (fromD (cx.bk κ).ins.cts d))) wv → (∀ b,Φ2 b → Φ b ∨ OwnH w γ ((cx.bk κ).ins.heap (fromD (cx.bk κ).ins.cts d)) b ∨ w.heap.size ≤ b) → DefR B wv Φ2 a0.defers:=fun hs hf => hdef.mono fun d' k1 k2 => by
  have hlt':=(Array.getElem?_eq_some_iff.1 k1).1
  have hno:=OwnH_off hi k1 rfl
  refine ⟨hs.block d' hlt' hno,fun h3 => ?_⟩
  rcases hf d' h3 with g | g | g
  · exact k2 g
  · exact hno g
  · omega
 have notin:∀ {Φ2:Nat → Prop},(∀ b,Φ2 b → Φ b ∨ OwnH w γ ((cx.bk κ).ins.heap (fromD (cx.bk κ).ins.cts d)) b ∨ w.heap.size ≤ b) → ¬ Φ2 l ∧ ¬ Φ2 dB:=fun hf => by
  refine ⟨fun h3 => ?_,fun h3 => ?_⟩
  · rcases hf l h3 with g | g | g
    · exact hnl g
    · exact hnOl g
    · omega
  · rcases hf dB h3 with g | g | g
    · exact hnd g
    · exact hnOd g
    · omega
 have bendR:∀ {ex:Ex} {s2:St} {a2:Act} {wv:World} {Φ2:Nat → Prop} {β2:Loc},Rel w Φ (OwnH w γ ((cx.bk κ).ins.heap (fromD (cx.bk κ).ins.cts d))) ⟨n,fixR,fun _ _ => False,Stays (cx.bk κ).ins,w,γ,(cx.bk κ).ins.heap (fromD (cx.bk κ).ins.cts d),w.heap.size,[]⟩ wv Φ2 β2 s2 a2 →
   packExit (stayRho 0 (cx.bk κ).ins.objs) (cx.bk κ).exits ex s2 = some y → BEnd cx κ n fix B w Φ γ (fromD (cx.bk κ).ins.cts d) y ex.toExit a0 wv:=by
  intro ex s2 a2 wv Φ2 β2 hr2 hpk
  obtain ⟨Φ3,γ3,_,gx⟩:=packExit_sound (N:=⟨n,fixR,fun _ _ => False,Stays (cx.bk κ).ins,w,γ,(cx.bk κ).ins.heap (fromD (cx.bk κ).ins.cts d),w.heap.size,[]⟩) (w:=w) (γ:=γ) (ds:=fromD (cx.bk κ).ins.cts d) rfl rfl rfl rfl hr2 hpk
  obtain ⟨_,_,_,_,_,_,hp0⟩:=gx.some
  exact ⟨hsz,hfix,Φ3,γ3,fixD hp0.same hp0.fro,ExR.act (A:=fun e' T' ds' vs => ex.toExit = e'.toExit ∧ InstR wv Φ3 T' ds' vs γ3 ∧ PostR w Φ γ (cx.bk κ).ins (fromD (cx.bk κ).ins.cts d) wv Φ3 γ3 T' ds') hc.ex gx⟩
 cases ex with
 | out id' => cases he
 | ret => cases he
 | norm =>
   simp only [hκ2] at he
   have hl1:w1.heap[l]? = some (.loop (rec .ready none)):=(hr1.same.block l hlt hnOl).trans hL
   have hd1:w1.heap[dB]? = some (.deferred (some [])):=(hr1.same.block dB hdlt hnOd).trans hD
   refine ⟨_,run_beginRound hl1 (by rw [hrec]; rfl),?_⟩
   let Q1:Exit → Act → World → Prop:=fun ex a' wv => (ex = .normal ∧ Iter P l e agg b k wv fun done w' => w'.heap[l]? = some (.loop (rec (if done then .ready else .done) (if done then none else some .ret))) ∧ w'.heap[dB]? = some (.deferred (some [])) ∧
     BEnd cx κ n fix B w Φ γ (fromD (cx.bk κ).ins.cts d) y (if done then .normal else .ret) a0 (w'.putObj l (.loop (rec .ready none)))) ∨
    (ex = .ret ∧ wv.heap[dB]? = some (.deferred (some [])) ∧ BEnd cx κ n fix B w Φ γ (fromD (cx.bk κ).ins.cts d) y .ret a0 wv)
   have hrun:=enterBlk_runX (N:=⟨n,fixR,fun _ _ => False,Stays (cx.bk κ).ins,w,γ,(cx.bk κ).ins.heap (fromD (cx.bk κ).ins.cts d),w.heap.size,[]⟩) (κ:=κ2) (c:=.block id2 c2) (Q:=Q1)
    (run:=fun Q a w => (Code.block id2 c2).wpIn (Rnd l) 0 P (fun ex a' w' => w'.heap[l]? = some (.loop { rec .ready none with state:=.busy }) ∧ Q ex a' (w'.putObj l (.loop (rec .ready none)))) a (w.putObj l (.loop { rec .ready none with state:=.busy })))
    (fun hq _ _ g => wpIn_mono g fun _ _ _ g => ⟨g.1,hq _ _ _ g.2⟩) (X:=fun w Φ => w.heap[l]? = some (.loop (rec .ready none)) ∧ ¬ Φ l)
    (fun Φ1' β1' s1' hrx => ⟨hl1,(notin hrx.fro).1⟩) ?_ (fun t ht => hc.keep t ht) (fun t v hv => (Bound_seq (hfixR t v hv).1).2) (Nat.le_refl _) hr1 (fun e2 s2 a2 wv Φ2 β2 hr2 he2 => ?_) he
   ·
    refine wpIn_mono hrun fun ex a' w3 ⟨g1,g2⟩ => ?_
    rcases g2 with ⟨rfl,g2⟩ | ⟨rfl,g2,g3⟩
    · have hend:=run_endRound (P:=P) none g1
      refine ⟨_,_,hend,.inl ⟨rfl,?_⟩⟩
      rw [hrec] at g2 ⊢
      exact g2
    · have hend:=run_endRound (P:=P) (some .ret) g1
      refine ⟨_,_,hend,.inr ⟨rfl,?_,?_,?_⟩⟩
      · rw [World.putObj_heap_same (Array.getElem?_eq_some_iff.1 g1).1,hrec]; rfl
      · rw [World.putObj_heap_other hdl]
        rwa [World.putObj_heap_other hdl] at g2
      · rw [putObj_put]; exact g3
   ·
    intro d2 y2 hy2 w Φ a γ fix B f1 f2 f3 f4 f5 f6 ⟨x1,x2⟩ f7
    have hoff:Off l w (w.putObj l (.loop { rec .ready none with state:=.busy })):=Off.put x1 rfl rfl
    obtain ⟨hib,hob⟩:=InstR_off hoff x2 f7
    have hgpb:cx.gp (w.putObj l (.loop { rec .ready none with state:=.busy })) Φ:=hok.gpm w _ Φ Φ (fun b hb => hoff.block b (fun e => x2 (e ▸ hb))) (fun _ h => h) f6
    have hdefb:DefR B (w.putObj l (.loop { rec .ready none with state:=.busy })) Φ a.defers:=f5.mono (fun d k1 k2 => ⟨hoff.block d (fun e => by subst e; rw [x1] at k1; cases k1),k2⟩)
    have hw:=hblk (some l) (.inr hc.pb) d2 y2 hy2 _ Φ a γ fix B f1 f2 f3 (by rw [hoff.size]; exact f4) hdefb hgpb hib
    refine wpIn_mono hw (fun ex a' w3 ⟨e1,e2,Φ',γ',e3,e4⟩ => ?_)
    obtain ⟨_,_,_,_,_,m2,m3⟩:=e4.some
    have hbusy:(w.putObj l (.loop { rec .ready none with state:=.busy })).heap[l]? = some (.loop { rec .ready none with state:=.busy }):=World.putObj_heap_same hoff.lt
    have hno:=OwnH_off hib hbusy rfl
    have hlt3:l < (w.putObj l (.loop { rec .ready none with state:=.busy })).heap.size:=by rw [hoff.size]; exact hoff.lt
    have hl3:w3.heap[l]? = some (.loop { rec .ready none with state:=.busy }):=(m3.same.block l hlt3 hno).trans hbusy
    have hn3:¬ Φ' l:=fun h3 => by
     rcases m3.fro l h3 with g | g | g
     · exact x2 g
     · exact hno g
     · omega
    have hoff3:Off l w3 (w3.putObj l (.loop (rec .ready none))):=Off.put hl3 rfl rfl
    refine ⟨hl3,e1,e2,Φ',γ',e3.mono (fun d k1 k2 => ⟨hoff3.block d (fun e => by subst e; rw [hl3] at k1; cases k1),k2⟩),ExR.mono (fun e slots T ds ⟨m1,m2,m3⟩ => ⟨m1,(InstR_off hoff3 hn3 m2).1,PostR_off hoff.symm hoff3 ?_ x2 hib m2 m3 hn3⟩) e4⟩
    rw [World.putObj_heap_same hoff3.lt,x1]
   ·
    cases e2 with
    | out id' => cases he2
    | ret =>
      refine .inr ⟨rfl,(hr2.same.block dB hdlt hnOd).trans hD,bendR (ex:=.ret) hr2 he2⟩
    | norm =>
      refine .inl ⟨rfl,?_⟩
      have hlv:wv.heap[l]? = some (.loop (rec .ready none)):=(hr2.same.block l hlt hnOl).trans hL
      have hdv:wv.heap[dB]? = some (.deferred (some [])):=(hr2.same.block dB hdlt hnOd).trans hD
      have he2:nextRng cx κ g [p0,q0] s2 = some y:=he2
      unfold nextRng at he2
      split at he2
      case h_2 => cases he2
      rename_i e' l' agg' hrl
      simp only at he2
      split at he2
      case h_2 => cases he2
      rename_i i hi0
      obtain ⟨f',b',v',hg',hit',hcell',hvc'⟩:=rngList_sound hr2 hrl
      have hgeq:a2.eval g = a0.eval g:=by
       obtain ⟨tg,rfl,t1,t2,t3⟩:=hc.fg
       show a2.tmps.getD tg undef = a0.tmps.getD tg undef
       rw [hr2.fix tg _ (by simp only [fixR]; rw [if_pos t3]),hget tg,if_neg t2,if_neg t1]
      rw [hgeq,hg] at hg'
      simp only [Value.func.injEq,Fn.func.injEq,Array.mk.injEq,List.cons.injEq,Value.pointer.injEq,Option.some.injEq,Addr.mk.injEq,and_true,true_and] at hg'
      obtain ⟨rfl,rfl⟩:=hg'
      rw [hit] at hit'
      simp only [Option.some.injEq,Prod.mk.injEq] at hit'
      obtain ⟨rfl,rfl⟩:=hit'
      have hik:i = (k:Int):=by
       have h1:a2.tmps.getD p0 undef = .int .i64 i:=hr2.env p0 _ hi0
       rw [hr2.fix p0 _ (by simp only [fixR]; rw [if_pos hc.fp]),hget p0,if_neg hpq,if_pos rfl] at h1
       cases h1; rfl
      subst hik
      cases k with
      | zero =>
        refine ⟨hlv,hdv,?_⟩
        rw [putObj_self hlv]
        exact bendR (ex:=.norm) hr2 he2
      | succ m =>
        have hne:((((m + 1:Nat):Int)) == 0) = false:=beq_eq_false_iff_ne.2 (by omega)
        rw [hne] at he2
        have hm:((m + 1:Nat):Int) - 1 = (m:Int):=by omega
        rw [hm] at he2
        obtain ⟨x,hx,he2⟩:=Option.bind_eq_some_iff.1 (show ((nth l' ((m:Nat):Int).toNat).bind _) = some y from he2)
        rw [Int.toNat_natCast] at hx
        split at he2
        case h_2 => cases he2
        rename_i usv husv
        split at he2
        case h_2 => cases he2
        rename_i env henv
        split at he2
        case h_2 => cases he2
        rename_i vs hvs
        split at he2
        case h_2 => cases he2
        rename_i d' ρ s3 hpk
        obtain ⟨p',q',hpq',_,rfl⟩:=rngSet_some henv
        cases hpq'
        obtain ⟨u',hu1,hu2⟩:=rdEl_of (w:=wv) (Φ:=Φ2) (β:=β2) (s:=s2) hvc' hx husv
        obtain ⟨Φ3,β3,hP⟩:=packD_sound hr2 (lookAll_rng (a:=a0) (p:=p0) (q:=q0) (k:=m) (u:=u') hps2 hqs2 hpq hu2 (fun t ht v hv n1 n2 => by
         have:=hr2.env t v hv
         rw [hr2.fix t _ (by simp only [fixR]; rw [if_pos (hc.fs t ht n1 n2)]),hget t,if_neg n2,if_neg n1] at this
         exact this) hvs) hpk
        have hpost:=out_post (N:=⟨n,fixR,fun _ _ => False,Stays (cx.bk κ).ins,w,γ,(cx.bk κ).ins.heap (fromD (cx.bk κ).ins.cts d),w.heap.size,[]⟩) (w:=w) (γ:=γ) (T:=(cx.bk κ).ins) (ds:=fromD (cx.bk κ).ins.cts d) rfl rfl rfl rfl hP
        obtain ⟨n1,n2⟩:=notin hpost.fro
        have it:=ih d' y he2 wv Φ3 a0 _ fix B l dB m p0 q0 f b fn u' v' e agg l' hfix hsz (Nat.le_trans hBw hr2.same.size) (fixD hpost.same hpost.fro) (GlobR.get this hP.rel) rfl hpq hg hit hcell' (VC_mono hP.mono.frz hP.mono.sub _ _ _ hvc') (nth_lt hx) hu1 (by rw [← hrec]; exact hlv) n1 hdv n2 hP.inst
        rw [← hrec] at it
        refine Iter.mono (fun done W ⟨t1,t2,t3,t4,Φ4,γ4,t5,t6⟩ => ⟨t1,t2,t3,t4,Φ4,γ4,t5,ExR.mono (fun _ _ _ _ ⟨m1,m2,m3⟩ => ⟨m1,m2,hpost.trans m3⟩) t6⟩) it
end
variable {R S:Type}
theorem bif_bind {b:Bool} {x y:Option R} {k:R → Option S}:(bif b then x else y).bind k = bif b then x.bind k else y.bind k:=by cases b <;> rfl
theorem binK_nat (e:Bool) (td:Option TD) (op:BinOp) (x y:SVal) (k:SVal → Option R):binK e td op x y k = (binK e td op x y some).bind k:=by
 unfold binK
 repeat' split
 all_goals (first | rfl | (simp only [bif_bind,bind_some,Option.bind_none]))
theorem unK_nat (op:UnOp) (x:SVal) (k:SVal → Option R):unK op x k = (unK op x some).bind k:=by
 unfold unK
 split <;> rfl
theorem boundK_nat {A:Type} (lo hi:Option SVal) (len:Nat) (f:Nat → Nat → Option A) (k:A → Option R):boundK lo hi len (fun a b => (f a b).bind k) = (boundK lo hi len f).bind k:=by
 unfold boundK
 split <;> simp only [bif_bind,Option.bind_none]
theorem splitN_nat {A R:Type} (kk:Nat → Option A) (k:A → Option R):∀ (n i:Nat),splitN n i (fun j => (kk j).bind k) = (splitN n i kk).bind k
 | 0,i => by simp only [splitN,bif_bind,Option.bind_none]
 | n + 1,i => by simp only [splitN,bif_bind,splitN_nat kk k n i]
theorem cellsN_nat {A R:Type} (s:St) (id n h:Nat) (kk:Nat → Option A) (k:A → Option R):cellsN s id n h (fun j => (kk j).bind k) = (cellsN s id n h kk).bind k:=by
 unfold cellsN
 split
 · exact splitN_nat kk k _ _
 · rfl
theorem sliceK_nat (td:TD) (s:St) (x:SVal) (lo hi:Option SVal) (k:SVal → Option R):sliceK td s x lo hi k = (sliceK td s x lo hi some).bind k:=by
 unfold sliceK
 repeat' split
 all_goals (first | rfl | (simp only [bif_bind,← boundK_nat,bind_some,Option.bind_none]; done) | (simp only [bif_bind,← boundK_nat,Option.bind_none,← cellsN_nat,bind_some]))
theorem convK_nat (tab:Nat → Option TD) (td dd:TD) (b:Bool) (s:St) (v:SVal) (k:SVal → St → Option R):convK tab td dd b s v k = (convK tab td dd b s v fun r s => some (r,s)).bind fun p => k p.1 p.2:=by
 unfold convK
 repeat' split
 all_goals (first | rfl | (simp only [bif_bind,bind_some,Option.bind_none]; done) | (simp only [bif_bind,Option.bind_none]; congr 1; split <;> rfl))
theorem slice3K_nat (td:TD) (x hi mx:SVal) (k:SVal → Option R):slice3K td x hi mx k = (slice3K td x hi mx some).bind k:=by
 unfold slice3K
 split
 · simp only [bif_bind,bind_some,Option.bind_none]
 · rfl
theorem arrK_nat (e:CT) (n:Nat) (agg:Bool) (cs:List Leaf) (j:Int) (k:SVal → Option R):arrK e n agg cs j k = (arrK e n agg cs j some).bind k:=by
 unfold arrK
 split
 · simp only [bif_bind,Option.bind_none,Option.bind_assoc]
   congr 1
   congr 1
   funext x
   split <;> rfl
 · rfl
theorem cutK_nat (td:TD) (cs:List Leaf) (off:Nat) (k:SVal → Option R):cutK td cs off k = (cutK td cs off some).bind k:=by
 unfold cutK
 cases Nat.ble (off + td.size) cs.length
 · rfl
 · simp only [cond_true]; split <;> rfl
theorem loadK_nat (s:St) (td:TD) (a:SVal) (k:SVal → Option R):loadK s td a k = (loadK s td a some).bind k:=by
 unfold loadK
 repeat' split
 all_goals (first | rfl | exact cutK_nat _ _ _ _ | (simp only [Option.bind_assoc]; congr 1; funext x; exact cutK_nat _ _ _ _) | (simp only [bif_bind,Option.bind_none]; congr 1; exact cutK_nat _ _ _ _))
theorem setK_nat (id i:Nat) (e:CT) (y:e.denote) (s:St) (k:St → Option R):setK id i e y s k = (setK id i e y s some).bind k:=by
 unfold setK
 repeat' split
 all_goals (first | rfl | (simp only [bif_bind,bind_some,Option.bind_none]))
theorem storeA_nat (s:St) (td:TD) (id i off:Nat) (e:CT) (l:List e.denote) (vs:List Leaf) (k:St → Option R):storeA s td id i off e l vs k = (storeA s td id i off e l vs some).bind k:=by
 unfold storeA
 repeat' split
 all_goals (first | rfl | (simp only [bif_bind,bind_some,Option.bind_none,Option.bind_assoc]))
 all_goals
  congr 1
  congr 1
  all_goals first
   | rfl
   | (congr 1; exact setK_nat _ _ _ _ _ _)
   | (congr 1; funext x; split <;> first | rfl | exact setK_nat _ _ _ _ _ _)
theorem storeK_nat (s:St) (td:TD) (a v:SVal) (k:St → Option R):storeK s td a v k = (storeK s td a v some).bind k:=by
 unfold storeK
 repeat' split
 all_goals (first | rfl | (simp only [bif_bind,bind_some,Option.bind_none,Option.bind_assoc]; done) | (simp only [bif_bind,bind_some,Option.bind_none,Option.bind_assoc]; rw [← storeA_nat]))
theorem ptrK_nat (s:St) (id i:Nat) (k:SVal → Option R):ptrK s id i k = (ptrK s id i some).bind k:=by
 unfold ptrK
 split
 · exact splitN_nat (fun i' => some (.one (.ptr id i'))) k _ _
 · rfl
theorem deleteK_nat (td:TD) (s:St) (x i:SVal) (k:St → Option R):deleteK td s x i k = (deleteK td s x i some).bind k:=by
 unfold deleteK
 split
 · split
   · split
     · split
       · simp only [bif_bind,bind_some,Option.bind_none]
       · rfl
     · rfl
   · rfl
 · rfl
theorem indexAddrK_nat (td:TD) (s:St) (x i:SVal) (k:SVal → Option R):indexAddrK td s x i k = (indexAddrK td s x i some).bind k:=by
 unfold indexAddrK
 repeat' split
 all_goals (first | rfl | (simp only [bif_bind,bind_some,Option.bind_none,Option.bind_assoc]; done) | (simp only [bif_bind,Option.bind_none]; rw [← ptrK_nat]))
theorem spliceK_nat (s:St) (id:Nat) (e:CT) (p:Option (Nat × Nat)) (xs:List e.denote) (k:St → Option R):spliceK s id e p xs k = (spliceK s id e p xs some).bind k:=by
 unfold spliceK
 split
 · split
   · simp only [bif_bind,bind_some,Option.bind_none]
   · rfl
 · rfl
theorem appendK_nat (e:CT) (s:St) (x y:SVal) (k:SVal → St → Option R):appendK e s x y k = (appendK e s x y fun v s => some (v,s)).bind fun p => k p.1 p.2:=by
 unfold appendK
 repeat' split
 all_goals (first | rfl | (simp only [bif_bind,bind_some,Option.bind_none,Option.bind_assoc]))
theorem maxK_nat (k:SVal → Option R):∀ (j:IntKind) (a:Int) (l:List SVal),maxK k j a l = (maxK some j a l).bind k
 | j,a,[] => rfl
 | j,a,x :: r => by
   cases x with
   | one l => cases l <;> first | rfl | exact maxK_nat k j _ r
   | _ => rfl
theorem minK_nat (k:SVal → Option R):∀ (j:IntKind) (a:Int) (l:List SVal),minK k j a l = (minK some j a l).bind k
 | j,a,[] => rfl
 | j,a,x :: r => by
   cases x with
   | one l => cases l <;> first | rfl | exact minK_nat k j _ r
   | _ => rfl
theorem extractK_nat (x:SVal) (i:Nat) (k:SVal → Option R):extractK x i k = (extractK x i some).bind k:=by
 unfold extractK
 repeat' split
 all_goals rfl
theorem lookupK_nat (td:TD) (s:St) (x i:SVal) (b:Bool) (k:SVal → Option R):lookupK td s x i b k = (lookupK td s x i b some).bind k:=by
 unfold lookupK
 repeat' split
 all_goals rfl
theorem updateK_nat (td:TD) (s:St) (x i y:SVal) (k:St → Option R):updateK td s x i y k = (updateK td s x i y some).bind k:=by
 unfold updateK
 split
 · simp only [bif_bind,Option.bind_none]
   congr 1
   repeat' split
   all_goals first | rfl | simp only [bif_bind,bind_some,Option.bind_none]
 · rfl
theorem takeK_nat (s:St) (id:Nat) (o:SObj) (e:CT) (row:List e.denote) (k:SVal → St → Option R):takeK s id o e row k = (takeK s id o e row fun v s => some (v,s)).bind fun p => k p.1 p.2:=by
 unfold takeK
 simp only [bif_bind,bind_some,Option.bind_none]
theorem loadS_nat (s:St) (td:TD) (a:SVal) (k:SVal → St → Option R):loadS s td a k = (loadS s td a fun v s => some (v,s)).bind fun p => k p.1 p.2:=by
 have hl:loadK s td a (fun r => k r s) = (loadK s td a fun r => some (r,s)).bind fun p => k p.1 p.2:=by
  rw [loadK_nat]
  conv => rhs; rw [loadK_nat]
  simp only [Option.bind_assoc,bind_some]
 unfold loadS
 split
 · split
   · split
     · split
       · simp only [Option.bind_assoc]
         congr 1
         funext x
         exact takeK_nat _ _ _ _ _ _
       · rfl
     · rfl
   · exact hl
 · exact hl
theorem rowK_nat (s:St) (e:CT) (v:SVal) (k:Nat → List e.denote → Option R):rowK s e v k = (rowK s e v fun i r => some (i,r)).bind fun p => k p.1 p.2:=by
 unfold rowK
 repeat' split
 all_goals (first | rfl | simp only [bif_bind,bind_some,Option.bind_none])
theorem storeS_nat (s:St) (td:TD) (a v:SVal) (k:St → Option R):storeS s td a v k = (storeS s td a v some).bind k:=by
 unfold storeS
 split
 · split
   · split
     · rw [rowK_nat]
       conv => rhs; rw [rowK_nat]
       simp only [Option.bind_assoc,bif_bind,bind_some,Option.bind_none]
     · rfl
   · exact storeK_nat _ _ _ _ _
 · exact storeK_nat _ _ _ _ _
theorem lookupS_nat (td:TD) (s:St) (x i:SVal) (b:Bool) (k:SVal → St → Option R):lookupS td s x i b k = (lookupS td s x i b fun v s => some (v,s)).bind fun p => k p.1 p.2:=by
 have hl:lookupK td s x i b (fun r => k r s) = (lookupK td s x i b fun r => some (r,s)).bind fun p => k p.1 p.2:=by
  rw [lookupK_nat]
  conv => rhs; rw [lookupK_nat]
  simp only [Option.bind_assoc,bind_some]
 unfold lookupS
 split
 · split
   · split
     · split
       · split
         · exact takeK_nat _ _ _ _ _ _
         · rfl
       · rfl
     · rfl
   · exact hl
 · exact hl
theorem updateS_nat (td:TD) (s:St) (x i y:SVal) (k:St → Option R):updateS td s x i y k = (updateS td s x i y some).bind k:=by
 unfold updateS
 split
 · split
   · split
     · split
       · split
         · rw [rowK_nat]
           conv => rhs; rw [rowK_nat]
           simp only [Option.bind_assoc,bif_bind,bind_some,Option.bind_none]
         · rfl
       · rfl
     · rfl
   · exact updateK_nat _ _ _ _ _ _
 · exact updateK_nat _ _ _ _ _ _
theorem fieldAddrK_nat (td:TD) (x:SVal) (i:Nat) (k:SVal → Option R):fieldAddrK td x i k = (fieldAddrK td x i some).bind k:=by
 unfold fieldAddrK
 repeat' split
 all_goals rfl
theorem fieldK_nat (td:TD) (x:SVal) (i:Nat) (k:SVal → Option R):fieldK td x i k = (fieldK td x i some).bind k:=by
 unfold fieldK
 repeat' split
 all_goals rfl
end Go.Bm
end
section
open Option (bind_some)
namespace Go.Bm
set_option linter.unusedVariables false
set_option linter.unusedSimpArgs false
structure Tb where
 tab:Nat → Option TD
 eqt:Nat → Bool
 keys:Nat → List Nat
 lend:Nat → Bool
 mkr:Nat → Bool
 mt:Nat → String → Option (Nat × Option (Nat × Nat))
 gp:World → (Nat → Prop) → Prop
 gv:Nat → Option Dyn
 it:Nat → Option (CT × Bool)
 kin:Nat → Tm
 kouts:Nat → List Tm
 bk:Nat → Blk
abbrev Tb.RF (T:Tb):Type:=(φ:Nat) → (T.kin φ).ct.denote → Option (outsT (T.kouts φ)).denote
abbrev Tb.RB (T:Tb):Type:=(κ:Nat) → (T.bk κ).ins.ct.denote → Option (exitsT (T.bk κ).exits).denote
abbrev Tb.cx (T:Tb) (rf:T.RF) (rb:T.RB):Cx:=⟨T.tab,T.eqt,T.keys,T.lend,T.mkr,T.mt,T.gp,T.gv,T.it,T.kin,T.kouts,T.bk,rf,rb⟩
variable {R A:Type} {T:Tb}
theorem nat' {X:(A → Option R) → Option R} {X':(A → Option St) → Option St} {Y:Option A} (h:∀ k,X k = Y.bind k) (h':∀ k,X' k = Y.bind k) (g:A → St) (k:St → Option R) :
  X (fun r => k (g r)) = (X' fun r => some (g r)).bind k:=by
 rw [h,h',Option.bind_assoc]; rfl
def isCall (o:Oper):Option (Option String × Operand):=match o.op with
 | .call c => match c.callee with
   | .value f => some (none,f)
   | .invoke x name => some (some name,x)
   | _ => none
 | _ => none
def callX (cx:Cx):Option String → SVal → List SVal → St → (SVal → St → Option R) → Option R
 | none => callK cx
 | some name => invokeK cx name
theorem nat2 {X:(A → St → Option R) → Option R} {X':(A → St → Option St) → Option St} {Y:Option (A × St)} (h:∀ k,X k = Y.bind fun p => k p.1 p.2) (h':∀ k,X' k = Y.bind fun p => k p.1 p.2) (g:A → St → St) (k:St → Option R) :
  X (fun r s => k (g r s)) = (X' fun r s => some (g r s)).bind k:=by
 rw [h,h',Option.bind_assoc]; rfl
theorem stepK_nat (rf rf':T.RF) (rb rb':T.RB) (o:Oper) (s:St) (k:St → Option R) (hc:isCall o = none):stepK (T.cx rf rb) o s k = (stepK (T.cx rf' rb') o s some).bind k:=by
 unfold stepK
 dsimp only [Tb.cx]
 split
 · split <;> rfl
 · split <;> rfl
 · repeat' split
   all_goals (first | rfl | simp only [bif_bind,bind_some,Option.bind_none])
   all_goals (congr 1 <;> split <;> rfl)
 · split <;> rfl
 · repeat' split
   all_goals (first | rfl | simp only [bif_bind,bind_some,Option.bind_none])
 · repeat' split
   all_goals rfl
 · repeat' split
   all_goals (first | rfl | (simp only [bif_bind,bind_some,Option.bind_none]; done) | (simp only [bif_bind,bind_some,Option.bind_none]; congr 1; (repeat' split) <;> rfl))
 · split
   · split
     · exact nat' (fun k => loadK_nat _ _ _ k) (fun k => loadK_nat _ _ _ k) _ k
     · rfl
   · split
     · exact nat2 (fun k => loadS_nat _ _ _ k) (fun k => loadS_nat _ _ _ k) _ k
     · rfl
 · split
   · exact nat' (fun k => storeS_nat _ _ _ _ k) (fun k => storeS_nat _ _ _ _ k) _ k
   · rfl
 · split <;> rfl
 · split
   · exact nat' (fun k => binK_nat _ _ _ _ _ k) (fun k => binK_nat _ _ _ _ _ k) _ k
   · rfl
 · split
   · exact nat' (fun k => unK_nat _ _ k) (fun k => unK_nat _ _ k) _ k
   · rfl
 · split
   · rfl
   · rfl
   · exact nat2 (fun k => convK_nat _ _ _ _ _ _ k) (fun k => convK_nat _ _ _ _ _ _ k) _ k
   · rfl
 · repeat' split
   all_goals (first | rfl | simp only [bif_bind,bind_some,Option.bind_none])
 · split
   · split
     · exact nat' (fun k => sliceK_nat _ _ _ _ _ k) (fun k => sliceK_nat _ _ _ _ _ k) _ k
     · rfl
   · rfl
 · split
   · exact nat' (fun k => slice3K_nat _ _ _ _ k) (fun k => slice3K_nat _ _ _ _ k) _ k
   · rfl
 · split
   · exact nat' (fun k => fieldAddrK_nat _ _ _ k) (fun k => fieldAddrK_nat _ _ _ k) _ k
   · rfl
 · split
   · exact nat' (fun k => fieldK_nat _ _ _ k) (fun k => fieldK_nat _ _ _ k) _ k
   · rfl
 · split
   · exact nat' (fun k => indexAddrK_nat _ _ _ _ k) (fun k => indexAddrK_nat _ _ _ _ k) _ k
   · rfl
 · split
   · simp only [bif_bind,bind_some,Option.bind_none,Option.bind_assoc]
   · exact nat' (fun k => arrK_nat _ _ _ _ _ k) (fun k => arrK_nat _ _ _ _ _ k) _ k
   · rfl
 · split
   · exact nat' (fun k => extractK_nat _ _ k) (fun k => extractK_nat _ _ k) _ k
   · rfl
 · split <;> rfl
 · split
   · exact nat2 (fun k => lookupS_nat _ _ _ _ _ k) (fun k => lookupS_nat _ _ _ _ _ k) _ k
   · rfl
 · split
   · exact nat' (fun k => updateS_nat _ _ _ _ _ k) (fun k => updateS_nat _ _ _ _ _ k) _ k
   · rfl
 · split
   · exact nat' (fun k => updateS_nat _ _ _ _ _ k) (fun k => updateS_nat _ _ _ _ _ k) _ k
   · rfl
 · split <;> rfl
 · rename_i c ho
   split
   · repeat' split
     all_goals rfl
   · split
     · cases Nat.beq _ _
       · rfl
       · simp only [cond_true]
         split
         · simp only [bif_bind]
           congr 1
           rw [appendK_nat]
           conv => rhs; rw [appendK_nat]
           simp only [Option.bind_assoc,bind_some,Option.bind_none]
         · rfl
     · rfl
   · split
     · split
       · exact nat' (fun k => spliceK_nat _ _ _ _ _ k) (fun k => spliceK_nat _ _ _ _ _ k) _ k
       · rfl
     · rfl
   · split
     · split
       · exact nat' (fun k => deleteK_nat _ _ _ _ k) (fun k => deleteK_nat _ _ _ _ k) _ k
       · rfl
     · rfl
   · split
     · split
       · simp only [bif_bind,Option.bind_none]
         congr 1
         split
         · exact nat' (fun k => spliceK_nat _ _ _ _ _ k) (fun k => spliceK_nat _ _ _ _ _ k) _ k
         · rfl
       · rfl
     · rfl
   · split
     · exact nat' (fun k => maxK_nat k _ _ _) (fun k => maxK_nat k _ _ _) _ k
     · rfl
   · split
     · exact nat' (fun k => minK_nat k _ _ _) (fun k => minK_nat k _ _ _) _ k
     · rfl
   · rename_i f hf
     simp [isCall,ho,hf] at hc
   · rename_i x nm hf
     simp [isCall,ho,hf] at hc
   · rfl
 · split <;> rfl
 · split
   · simp only [bif_bind,bind_some,Option.bind_none]
   · rfl
 · rfl
theorem stepK_call (cx:Cx) {o:Oper} {f:Option String × Operand} (hc:isCall o = some f) (s:St) (k:St → Option R):∃ c:Call,o.op = .call c ∧ stepK cx o s k = match evalO s.env f.2,evalAll s.env c.args.toList with
   | some v,some vs => callX cx f.1 v vs s fun r s' => k (s'.set o.dst r)
   | _,_ => none:=by
 unfold isCall at hc
 split at hc
 · rename_i c ho
   split at hc
   · rename_i f' hf
     cases hc
     exact ⟨c,ho,by simp only [stepK,ho,hf]; rfl⟩
   · rename_i f' nm hf
     cases hc
     exact ⟨c,ho,by simp only [stepK,ho,hf]; rfl⟩
   · cases hc
 · cases hc
end Go.Bm
end
section
open Option (bind_some)
namespace Go.Bm
set_option linter.unusedVariables false
set_option linter.unusedSimpArgs false
def Evt (p:Nat → Prop):Prop:=∃ N,∀ n,N ≤ n → p n
theorem Evt.all {p:Nat → Prop} (h:∀ n,p n):Evt p:=⟨0,fun n _ => h n⟩
theorem Evt.mono {p q:Nat → Prop} (h:Evt p) (g:∀ n,p n → q n):Evt q:=by obtain ⟨N,h⟩:=h; exact ⟨N,fun n hn => g n (h n hn)⟩
theorem Evt.and {p q:Nat → Prop} (h:Evt p) (g:Evt q):Evt fun n => p n ∧ q n:=by
 obtain ⟨N,h⟩:=h; obtain ⟨M,g⟩:=g
 exact ⟨max N M,fun n hn => ⟨h n (by omega),g n (by omega)⟩⟩
variable {R:Type} {T:Tb} {rfi:T.RF} {rbi:T.RB} {rf:Nat → T.RF} {rb:Nat → T.RB}
def NearF (rfi:T.RF) (rf:Nat → T.RF):Prop:=∀ f d y,rfi f d = some y → Evt fun n => rf n f d = some y
def NearB (rbi:T.RB) (rb:Nat → T.RB):Prop:=∀ κ d y,rbi κ d = some y → Evt fun n => rb n κ d = some y
theorem leaveF_lim {T':Tm} {ρ:Rho} {s:St} {ki:SVal → St → Option R} {k:Nat → SVal → St → Option R} {r:R} (hk:∀ v s',ki v s' = some r → Evt fun n => k n v s' = some r):∀ {l:List Tm} {y:(outsT l).denote},
  leaveF T' ρ s l y ki = some r → Evt fun n => leaveF T' ρ s l y (k n) = some r
 | [],y,h => by cases h
 | [T2],y,h => by
   simp only [leaveF] at h ⊢
   cases hv:resultVal (backVals T' ρ T2 (fromD T2.cts y) s) with
   | none => rw [hv] at h; cases h
   | some v => rw [hv] at h; exact hk _ _ h
 | T2 :: b :: r',.inl y,h => by
   simp only [leaveF] at h ⊢
   cases hv:resultVal (backVals T' ρ T2 (fromD T2.cts y) s) with
   | none => rw [hv] at h; cases h
   | some v => rw [hv] at h; exact hk _ _ h
 | T2 :: b :: r',.inr y,h => by
   simp only [leaveF] at h ⊢
   exact leaveF_lim hk (l:=b :: r') h
theorem leaveN_lim {s:St} {ki:SVal → St → Option R} {k:Nat → SVal → St → Option R} {r:R} (hk:∀ v s',ki v s' = some r → Evt fun n => k n v s' = some r):∀ {l:List Tm} {y:(outsT l).denote},
  leaveN s l y ki = some r → Evt fun n => leaveN s l y (k n) = some r
 | [],y,h => by cases h
 | [T2],y,h => by
   simp only [leaveN] at h ⊢
   cases hb:T2.objs.isEmpty && (T2.vals (fromD T2.cts y)).all SVal.flat with
   | false => rw [hb] at h; cases h
   | true =>
     rw [hb] at h
     cases hv:resultVal (T2.vals (fromD T2.cts y)) with
     | none => rw [hv] at h; cases h
     | some v => rw [hv] at h; exact hk _ _ h
 | T2 :: b :: r',.inl y,h => by
   simp only [leaveN] at h ⊢
   cases hb:T2.objs.isEmpty && (T2.vals (fromD T2.cts y)).all SVal.flat with
   | false => rw [hb] at h; cases h
   | true =>
     rw [hb] at h
     cases hv:resultVal (T2.vals (fromD T2.cts y)) with
     | none => rw [hv] at h; cases h
     | some v => rw [hv] at h; exact hk _ _ h
 | T2 :: b :: r',.inr y,h => by
   simp only [leaveN] at h ⊢
   exact leaveN_lim hk (l:=b :: r') h
theorem callTry_lim (hf:NearF rfi rf) {args:List SVal} {s:St} {ki:SVal → St → Option R} {k:Nat → SVal → St → Option R} {r:R} (hk:∀ v s',ki v s' = some r → Evt fun n => k n v s' = some r):∀ (l:List Nat),
  callTry (T.cx rfi rbi) args s ki l = some r → Evt fun n => callTry (T.cx (rf n) (rb n)) args s (k n) l = some r
 | [],h => by cases h
 | φ :: l,h => by
   simp only [callTry] at h ⊢
   dsimp only [Tb.cx] at h ⊢
   cases hp:packIn (T.kin φ) args s with
   | none => rw [hp] at h; exact callTry_lim hf hk l h
   | some p =>
     obtain ⟨d,ρ,s1⟩:=p
     rw [hp] at h
     obtain ⟨y,h1,h2⟩:=Option.bind_eq_some_iff.1 h
     cases hl:T.lend φ with
     | false =>
       rw [hl] at h2
       exact ((hf φ d y h1).and (leaveF_lim hk h2)).mono fun n hn => by simp only [hn.1,bind_some,cond_false]; exact hn.2
     | true =>
       rw [hl] at h2
       cases hb:(T.kin φ).objs.isEmpty with
       | false => rw [hb] at h2; cases h2
       | true =>
         rw [hb] at h2
         exact ((hf φ d y h1).and (leaveN_lim hk h2)).mono fun n hn => by simp only [hn.1,bind_some,cond_true]; exact hn.2
theorem callK_lim (hf:NearF rfi rf) {v:SVal} {args:List SVal} {s:St} {ki:SVal → St → Option R} {k:Nat → SVal → St → Option R} {r:R} (hk:∀ v s',ki v s' = some r → Evt fun n => k n v s' = some r)
  (h:callK (T.cx rfi rbi) v args s ki = some r):Evt fun n => callK (T.cx (rf n) (rb n)) v args s (k n) = some r:=by
 unfold callK at h ⊢
 split at h
 · exact callTry_lim hf hk _ h
 · cases h
theorem invokeK_lim (hf:NearF rfi rf) {name:String} {v:SVal} {args:List SVal} {s:St} {ki:SVal → St → Option R} {k:Nat → SVal → St → Option R} {r:R} (hk:∀ v s',ki v s' = some r → Evt fun n => k n v s' = some r)
  (h:invokeK (T.cx rfi rbi) name v args s ki = some r):Evt fun n => invokeK (T.cx (rf n) (rb n)) name v args s (k n) = some r:=by
 unfold invokeK at h ⊢
 split at h
 · rename_i t id off
   dsimp only [Tb.cx] at h ⊢
   cases hm:T.mt t name with
   | none => rw [hm] at h; cases h
   | some p =>
     obtain ⟨f,how⟩:=p
     cases how with
     | none =>
       rw [hm] at h
       exact callTry_lim hf hk _ h
     | some q =>
       obtain ⟨ty,o⟩:=q
       rw [hm] at h
       simp only at h ⊢
       cases ht:T.tab ty with
       | none => rw [ht] at h; cases h
       | some td =>
         rw [ht] at h
         simp only at h ⊢
         rw [loadK_nat] at h
         obtain ⟨x,h1,h2⟩:=Option.bind_eq_some_iff.1 h
         refine (callTry_lim (rb:=rb) hf hk _ h2).mono fun n hn => ?_
         rw [loadK_nat,h1]
         exact hn
 · cases h
theorem callX_lim (hf:NearF rfi rf) {m:Option String} {v:SVal} {args:List SVal} {s:St} {ki:SVal → St → Option R} {k:Nat → SVal → St → Option R} {r:R} (hk:∀ v s',ki v s' = some r → Evt fun n => k n v s' = some r)
  (h:callX (T.cx rfi rbi) m v args s ki = some r):Evt fun n => callX (T.cx (rf n) (rb n)) m v args s (k n) = some r:=by
 cases m with
 | none => exact callK_lim hf hk h
 | some name => exact invokeK_lim hf hk h
theorem stepK_lim (hf:NearF rfi rf) {o:Oper} {s:St} {ki:St → Option R} {k:Nat → St → Option R} {r:R} (hk:∀ s',ki s' = some r → Evt fun n => k n s' = some r)
  (h:stepK (T.cx rfi rbi) o s ki = some r):Evt fun n => stepK (T.cx (rf n) (rb n)) o s (k n) = some r:=by
 cases hc:isCall o with
 | none =>
   rw [stepK_nat rfi rfi rbi rbi o s ki hc] at h
   obtain ⟨s',h1,h2⟩:=Option.bind_eq_some_iff.1 h
   exact (hk s' h2).mono fun n hn => by rw [stepK_nat (rf n) rfi (rb n) rbi o s (k n) hc,h1]; exact hn
 | some f =>
   obtain ⟨c,ho,e⟩:=stepK_call (T.cx rfi rbi) hc s ki
   rw [e] at h
   split at h
   case h_2 => cases h
   rename_i v vs hv hvs
   refine (callX_lim (rb:=rb) (k:=fun n r s' => k n (s'.set o.dst r)) hf (fun v s' h' => hk _ h') h).mono fun n hn => ?_
   obtain ⟨c',ho',e'⟩:=stepK_call (T.cx (rf n) (rb n)) hc s (k n)
   rw [ho] at ho'; cases ho'
   rw [e',hv,hvs]
   exact hn
theorem guardK_lim {b want:Bool} {d:Nat} {dst:Option Nat} {s:St} {yi ni:St → Option R} {y n:Nat → St → Option R} {r:R} (hy:∀ s',yi s' = some r → Evt fun i => y i s' = some r) (hn:∀ s',ni s' = some r → Evt fun i => n i s' = some r)
  (h:guardK b want d dst s yi ni = some r):Evt fun i => guardK b want d dst s (y i) (n i) = some r:=by
 cases b <;> cases want <;> first | exact hy _ h | exact hn _ h
theorem evOps_lim (hf:NearF rfi rf) {all:List Oper} {ki:St → Option R} {k:Nat → St → Option R} {r:R} (hk:∀ s',ki s' = some r → Evt fun n => k n s' = some r):∀ (l:List Oper) (s:St),
  evOps (T.cx rfi rbi) all l s ki = some r → Evt fun n => evOps (T.cx (rf n) (rb n)) all l s (k n) = some r
 | [],s,h => hk s h
 | o :: l,s,h => by
   have ih:=evOps_lim (all:=all) hf hk l
   simp only [evOps] at h ⊢
   have yes:∀ s',stepK (T.cx rfi rbi) o s' (fun s'' => evOps (T.cx rfi rbi) all l s'' ki) = some r → Evt fun n => stepK (T.cx (rf n) (rb n)) o s' (fun s'' => evOps (T.cx (rf n) (rb n)) all l s'' (k n)) = some r :=
    fun s' h' => stepK_lim (k:=fun n s'' => evOps (T.cx (rf n) (rb n)) all l s'' (k n)) hf (fun s'' h'' => ih s'' h'') h'
   cases hg:o.guard with
   | none =>
     rw [hg] at h
     exact (yes s h).mono fun n hn => hn
   | some jw =>
     obtain ⟨j,want⟩:=jw
     rw [hg] at h
     cases hd:(nth all j).bind (·.dst) with
     | none => simp only [hd] at h; cases h
     | some d =>
       simp only [hd] at h ⊢
       cases hl:look s.env d with
       | none => rw [hl] at h; cases h
       | some v =>
         rw [hl] at h
         cases v with
         | one l' =>
           cases l' with
           | bool b =>
             cases b
             · exact guardK_lim (b:=false) (y:=fun n s => stepK (T.cx (rf n) (rb n)) o s fun s' => evOps (T.cx (rf n) (rb n)) all l s' (k n)) (n:=fun n s => evOps (T.cx (rf n) (rb n)) all l s (k n)) yes ih h
             · exact guardK_lim (b:=true) (y:=fun n s => stepK (T.cx (rf n) (rb n)) o s fun s' => evOps (T.cx (rf n) (rb n)) all l s' (k n)) (n:=fun n s => evOps (T.cx (rf n) (rb n)) all l s (k n)) yes ih h
           | _ => cases h
         | skip => exact ih _ h
         | _ => cases h
theorem evOp1_lim (hf:NearF rfi rf) {all:List Oper} {o:Oper} {s:St} {ki:St → Option R} {k:Nat → St → Option R} {r:R} (hk:∀ s',ki s' = some r → Evt fun n => k n s' = some r)
  (h:evOp1 (T.cx rfi rbi) all o s ki = some r):Evt fun n => evOp1 (T.cx (rf n) (rb n)) all o s (k n) = some r:=by
 unfold evOp1 at h ⊢
 cases hg:o.guard with
 | none => rw [hg] at h; exact stepK_lim hf hk h
 | some jw =>
   obtain ⟨j,want⟩:=jw
   rw [hg] at h
   cases hd:(nth all j).bind (·.dst) with
   | none => simp only [hd] at h; cases h
   | some d =>
     simp only [hd] at h ⊢
     cases hl:look s.env d with
     | none => rw [hl] at h; cases h
     | some v =>
       rw [hl] at h
       cases v with
       | one l' =>
         cases l' with
         | bool b =>
           cases b
           · exact guardK_lim (b:=false) (y:=fun n s => stepK (T.cx (rf n) (rb n)) o s (k n)) (n:=fun n s => k n s) (fun s' h' => stepK_lim hf hk h') hk h
           · exact guardK_lim (b:=true) (y:=fun n s => stepK (T.cx (rf n) (rb n)) o s (k n)) (n:=fun n s => k n s) (fun s' h' => stepK_lim hf hk h') hk h
         | _ => cases h
       | skip => exact hk _ h
       | _ => cases h
theorem stepT_lim (hf:NearF rfi rf) {o:Oper} {s:St} {ki:St → Option R} {k:Nat → St → Option R} {r:R} (hk:∀ s',ki s' = some r → Evt fun n => k n s' = some r)
  (h:stepT (T.cx rfi rbi) o s ki = some r):Evt fun n => stepT (T.cx (rf n) (rb n)) o s (k n) = some r:=by
 unfold stepT at h ⊢
 cases hs:stableOp o s with
 | false => rw [hs] at h; cases h
 | true => rw [hs] at h; exact stepK_lim hf hk h
theorem evOpT_lim (hf:NearF rfi rf) {all:List Oper} {o:Oper} {s:St} {ki:St → Option R} {k:Nat → St → Option R} {r:R} (hk:∀ s',ki s' = some r → Evt fun n => k n s' = some r)
  (h:evOpT (T.cx rfi rbi) all o s ki = some r):Evt fun n => evOpT (T.cx (rf n) (rb n)) all o s (k n) = some r:=by
 unfold evOpT at h ⊢
 cases hg:o.guard with
 | none => rw [hg] at h; exact stepT_lim hf hk h
 | some jw =>
   obtain ⟨j,want⟩:=jw
   rw [hg] at h
   cases hd:(nth all j).bind (·.dst) with
   | none => simp only [hd] at h; cases h
   | some d =>
     simp only [hd] at h ⊢
     cases hl:look s.env d with
     | none => rw [hl] at h; cases h
     | some v =>
       rw [hl] at h
       cases v with
       | one l' =>
         cases l' with
         | bool b =>
           cases b
           · exact guardK_lim (b:=false) (y:=fun n s => stepT (T.cx (rf n) (rb n)) o s (k n)) (n:=fun n s => k n s) (fun s' h' => stepT_lim hf hk h') hk h
           · exact guardK_lim (b:=true) (y:=fun n s => stepT (T.cx (rf n) (rb n)) o s (k n)) (n:=fun n s => k n s) (fun s' h' => stepT_lim hf hk h') hk h
         | _ => cases h
       | skip => exact hk _ h
       | _ => cases h
theorem agree_of {x y:Option R} {r:R} (h1:x = some r) (h2:y = some r):agree x y = some r:=by rw [h1,h2,agree_self]
theorem evOrd_lim (hf:NearF rfi rf) {all:List Oper} {ki:St → Option R} {k:Nat → St → Option R} {r:R} (hk:∀ s',ki s' = some r → Evt fun n => k n s' = some r):∀ (t:OrdT) (s:St),
  evOrd (T.cx rfi rbi) all t s ki = some r → Evt fun n => evOrd (T.cx (rf n) (rb n)) all t s (k n) = some r
 | .done,s,h => hk s h
 | .take i t,s,h => by
   simp only [evOrd] at h ⊢
   cases ho:nth all i with
   | none => rw [ho] at h; cases h
   | some o =>
     rw [ho] at h
     exact evOpT_lim (k:=fun n s' => evOrd (T.cx (rf n) (rb n)) all t s' (k n)) hf (fun s' h' => evOrd_lim hf hk t s' h') h
 | .only i t,s,h => by
   simp only [evOrd] at h ⊢
   cases ho:nth all i with
   | none => rw [ho] at h; cases h
   | some o =>
     rw [ho] at h
     obtain ⟨hrf,h⟩:=cond_none h
     simp only [hrf,cond_true]
     exact evOp1_lim (k:=fun n s' => evOrd (T.cx (rf n) (rb n)) all t s' (k n)) hf (fun s' h' => evOrd_lim hf hk t s' h') h
 | .alt i t q,s,h => by
   simp only [evOrd] at h ⊢
   cases ho:nth all i with
   | none => rw [ho] at h; cases h
   | some o =>
     rw [ho] at h
     obtain ⟨hrf,h⟩:=cond_none h
     simp only [hrf,cond_true]
     obtain ⟨h1,h2⟩:=agree_some h
     exact ((evOp1_lim (k:=fun n s' => evOrd (T.cx (rf n) (rb n)) all t s' (k n)) hf (fun s' h' => evOrd_lim hf hk t s' h') h1).and (evOrd_lim hf hk q s h2)).mono fun n hn => agree_of hn.1 hn.2
theorem leaveBlk_lim {T':Tm} {ρ:Rho} {keep:List Nat} {s:St} {ki:Ex → St → Option R} {k:Nat → Ex → St → Option R} {r:R} (hk:∀ e s',ki e s' = some r → Evt fun n => k n e s' = some r):∀ {l:List (Ex × List Nat × Tm)} {y:(exitsT l).denote},
  leaveBlk T' ρ keep s l y ki = some r → Evt fun n => leaveBlk T' ρ keep s l y (k n) = some r
 | [],y,h => by cases h
 | [(e,slots,T2)],y,h => hk _ _ h
 | (e,slots,T2) :: b :: r',.inl y,h => hk _ _ h
 | (e,slots,T2) :: b :: r',.inr y,h => leaveBlk_lim hk (l:=b :: r') h
theorem enterBlk_lim (hb:NearB rbi rb) {κ:Nat} {s:St} {ki:Ex → St → Option R} {k:Nat → Ex → St → Option R} {r:R} (hk:∀ e s',ki e s' = some r → Evt fun n => k n e s' = some r)
  (h:enterBlk (T.cx rfi rbi) κ s ki = some r):Evt fun n => enterBlk (T.cx (rf n) (rb n)) κ s (k n) = some r:=by
 unfold enterBlk at h ⊢
 dsimp only [Tb.cx] at h ⊢
 cases hl:lookAll s.env (T.bk κ).slots with
 | none => rw [hl] at h; cases h
 | some vs =>
   simp only [hl] at h ⊢
   cases hp:packIn (T.bk κ).ins vs s with
   | none => rw [hp] at h; cases h
   | some p =>
     obtain ⟨d,ρ,s1⟩:=p
     simp only [hp] at h ⊢
     obtain ⟨y,h1,h2⟩:=Option.bind_eq_some_iff.1 h
     exact ((hb κ _ y h1).and (leaveBlk_lim hk h2)).mono fun n hn => by rw [hn.1]; exact hn.2
theorem enterRng_lim (hb:NearB rbi rb) {κ:Nat} {g:Operand} {ps:List Nat} {s:St} {ki:Ex → St → Option R} {k:Nat → Ex → St → Option R} {r:R} (hk:∀ e s',ki e s' = some r → Evt fun n => k n e s' = some r)
  (h:enterRng (T.cx rfi rbi) κ g ps s ki = some r):Evt fun n => enterRng (T.cx (rf n) (rb n)) κ g ps s (k n) = some r:=by
 unfold enterRng at h ⊢
 have e0:∀ n,rngList (T.cx (rf n) (rb n)) s g = rngList (T.cx rfi rbi) s g:=fun n => rfl
 simp only [e0]
 cases h0:rngList (T.cx rfi rbi) s g with
 | none => rw [h0] at h; cases h
 | some q =>
   obtain ⟨e,l,agg⟩:=q
   rw [h0] at h
   simp only at h ⊢
   cases h1:Nat.ble l.length most with
   | false => rw [h1] at h; cases h
   | true =>
     rw [h1] at h
     simp only [cond_true] at h ⊢
     cases h2:Nat.beq l.length 0 with
     | true => rw [h2] at h; exact hk _ _ h
     | false =>
       rw [h2] at h
       simp only [cond_false] at h ⊢
       cases h3:nth l (l.length - 1) with
       | none => rw [h3] at h; cases h
       | some x =>
         rw [h3] at h
         simp only [bind_some] at h ⊢
         cases h4:asVal agg (unpackL e x) with
         | none => rw [h4] at h; cases h
         | some u =>
           rw [h4] at h
           simp only at h ⊢
           cases h5:rngSet ps ((l.length - 1:Nat):Int) u s.env with
           | none => rw [h5] at h; cases h
           | some env =>
             rw [h5] at h
             simp only at h ⊢
             dsimp only [Tb.cx] at h ⊢
             cases hl:lookAll env (T.bk κ).slots with
             | none => rw [hl] at h; cases h
             | some vs =>
               simp only [hl] at h ⊢
               cases hp:packIn (T.bk κ).ins vs s with
               | none => rw [hp] at h; cases h
               | some p =>
                 obtain ⟨d,ρ,s1⟩:=p
                 simp only [hp] at h ⊢
                 obtain ⟨y,g1,g2⟩:=Option.bind_eq_some_iff.1 h
                 exact ((hb κ _ y g1).and (leaveBlk_lim hk g2)).mono fun n hn => by rw [hn.1]; exact hn.2
theorem nextRng_lim (hb:NearB rbi rb) {κ:Nat} {g:Operand} {ps:List Nat} {s:St} {y:(exitsT (T.bk κ).exits).denote}
  (h:nextRng (T.cx rfi rbi) κ g ps s = some y):Evt fun n => nextRng (T.cx (rf n) (rb n)) κ g ps s = some y:=by
 unfold nextRng at h ⊢
 have e0:∀ n,rngList (T.cx (rf n) (rb n)) s g = rngList (T.cx rfi rbi) s g:=fun n => rfl
 simp only [e0]
 cases h0:rngList (T.cx rfi rbi) s g with
 | none => rw [h0] at h; cases h
 | some q =>
   obtain ⟨e,l,agg⟩:=q
   rw [h0] at h
   simp only at h ⊢
   cases ps with
   | nil => cases h
   | cons p ps =>
     simp only at h ⊢
     split at h
     case h_2 => cases h
     rename_i i hi
     cases h2:i == 0 with
     | true => rw [h2] at h; exact Evt.all fun n => h
     | false =>
       rw [h2] at h
       simp only [cond_false] at h ⊢
       cases h3:nth l (i - 1).toNat with
       | none => rw [h3] at h; cases h
       | some x =>
         rw [h3] at h
         simp only [bind_some] at h ⊢
         cases h4:asVal agg (unpackL e x) with
         | none => rw [h4] at h; cases h
         | some u =>
           rw [h4] at h
           simp only at h ⊢
           cases h5:rngSet (p :: ps) (i - 1) u s.env with
           | none => rw [h5] at h; cases h
           | some env =>
             rw [h5] at h
             simp only at h ⊢
             dsimp only [Tb.cx] at h ⊢
             cases hl:lookAll env (T.bk κ).slots with
             | none => rw [hl] at h; cases h
             | some vs =>
               simp only [hl] at h ⊢
               cases hp:packD (T.bk κ).ins (stayRho 0 (T.bk κ).ins.objs) vs s with
               | none => rw [hp] at h; cases h
               | some p =>
                 obtain ⟨d,ρ,s1⟩:=p
                 simp only [hp] at h ⊢
                 exact hb κ _ y h
theorem loopU_lim {bi:St → (Ex → St → Option R) → Option R} {b:Nat → St → (Ex → St → Option R) → Option R} {r:R}
  (hbd:∀ (ki:Ex → St → Option R) (k:Nat → Ex → St → Option R) (s:St),(∀ e s',ki e s' = some r → Evt fun n => k n e s' = some r) → bi s ki = some r → Evt fun n => b n s (k n) = some r)
  {ki:Ex → St → Option R} {k:Nat → Ex → St → Option R} (hk:∀ e s',ki e s' = some r → Evt fun n => k n e s' = some r):∀ (m:Nat) (s:St),loopU bi m s ki = some r → Evt fun n => loopU (b n) m s (k n) = some r
 | 0,s,h => by cases h
 | m + 1,s,h => by
   simp only [loopU] at h ⊢
   refine hbd _ (fun n e s' => match e with
    | .norm => loopU (b n) m s' (k n)
    | .out id => k n (.out id) s'
    | .ret => k n .ret s') s (fun e s' h' => ?_) h
   cases e with
   | norm => exact loopU_lim hbd hk m s' h'
   | out id => exact hk _ _ h'
   | ret => exact hk _ _ h'
theorem ev_lim (hf:NearF rfi rf) (hb:NearB rbi rb) {H:Hn} {r:R}:∀ (c:Code) (ki:Ex → St → Option R) (k:Nat → Ex → St → Option R) (s:St),(∀ e s',ki e s' = some r → Evt fun n => k n e s' = some r) →
  ev (T.cx rfi rbi) H c s ki = some r → Evt fun n => ev (T.cx (rf n) (rb n)) H c s (k n) = some r
 | .skip,ki,k,s,hk,h => hk _ _ h
 | .region _ ops false,ki,k,s,hk,h => evOps_lim (k:=fun n => k n .norm) hf (fun s' h' => hk _ _ h') _ s h
 | .region id ops true,ki,k,s,hk,h => by
   simp only [ev] at h ⊢
   cases hd:H.dk id with
   | none => rw [hd] at h; cases h
   | some p =>
     obtain ⟨slots,t⟩:=p
     rw [hd] at h
     exact evOrd_lim (k:=fun n s' => k n .norm { s' with hold:=[] }) hf (fun s' h' => hk _ _ h') t _ h
 | .seq a b,ki,k,s,hk,h => by
   simp only [ev] at h ⊢
   refine ev_lim hf hb a _ (fun n e s' => match e with
    | .norm => match (firstRegion b).bind H.tk with
      | some κ => enterBlk (T.cx (rf n) (rb n)) κ s' (k n)
      | none => ev (T.cx (rf n) (rb n)) H b s' (k n)
    | .out id => k n (.out id) s'
    | .ret => k n .ret s') s (fun e s' h' => ?_) h
   cases e with
   | norm =>
     simp only at h' ⊢
     cases ht:(firstRegion b).bind H.tk with
     | none => rw [ht] at h'; exact ev_lim hf hb b ki k s' hk h'
     | some κ => rw [ht] at h'; exact enterBlk_lim hb hk h'
   | out id => exact hk _ _ h'
   | ret => exact hk _ _ h'
 | .cond c a b,ki,k,s,hk,h => by
   simp only [ev] at h ⊢
   cases hc:evalO s.env c with
   | none => rw [hc] at h; cases h
   | some v =>
     rw [hc] at h
     cases v with
     | one l =>
       cases l with
       | bool t =>
         cases t
         · exact ev_lim hf hb b ki k s hk h
         · exact ev_lim hf hb a ki k s hk h
       | anyb =>
         obtain ⟨h1,h2⟩:=agree_some h
         refine ((ev_lim hf hb a ki k s hk h1).and (ev_lim hf hb b ki k s hk h2)).mono fun n hn => ?_
         show agree _ _ = some r
         rw [hn.1,hn.2]; exact agree_self _
       | _ => cases h
     | _ => cases h
 | .block id c,ki,k,s,hk,h => by
   simp only [ev] at h ⊢
   cases hl:H.lk id with
   | some κ =>
     rw [hl] at h
     cases c with
     | rangeFunc g ps a b => exact enterRng_lim hb hk h
     | _ => exact enterBlk_lim hb hk h
   | none =>
     rw [hl] at h
     refine ev_lim hf hb c _ (fun n e s' => match e with
      | .out id' => bif Nat.beq id' id then k n .norm s' else k n (.out id') s'
      | .norm => k n .norm s'
      | .ret => k n .ret s') s (fun e s' h' => ?_) h
     cases e with
     | norm => exact hk _ _ h'
     | ret => exact hk _ _ h'
     | out id' =>
       simp only at h' ⊢
       cases hq:Nat.beq id' id with
       | true => rw [hq] at h'; exact hk _ _ h'
       | false => rw [hq] at h'; exact hk _ _ h'
 | .loop c,ki,k,s,hk,h => loopU_lim (b:=fun n => ev (T.cx (rf n) (rb n)) H c) (fun ki k s hk h => ev_lim hf hb c ki k s hk h) hk 16 s h
 | .exit id,ki,k,s,hk,h => hk _ _ h
 | .ret,ki,k,s,hk,h => hk _ _ h
 | .rangeFunc _ _ _ _,ki,k,s,hk,h => by simp [ev] at h
 | .scope _,ki,k,s,hk,h => by simp [ev] at h
 | .label _,ki,k,s,hk,h => by simp [ev] at h
 | .goto _,ki,k,s,hk,h => by simp [ev] at h
 | .refuse _,ki,k,s,hk,h => by simp [ev] at h
theorem resultsOf_cx (rf rf':T.RF) (rb rb':T.RB) (s:St):∀ (rs:List ResultVar),resultsOf (T.cx rf rb) s rs = resultsOf (T.cx rf' rb') s rs
 | [] => rfl
 | r :: rs => by
   simp only [resultsOf,resultsOf_cx rf rf' rb rb' s rs]
   cases r <;> rfl
theorem evFn_lim (hf:NearF rfi rf) (hb:NearB rbi rb) {H:Hn} {φ:Nat} {c:Code} {rs:List ResultVar} {d:(T.kin φ).ct.denote} {y:(outsT (T.kouts φ)).denote}
  (h:evFn (T.cx rfi rbi) H φ c rs d = some y):Evt fun n => evFn (T.cx (rf n) (rb n)) H φ c rs d = some y:=by
 unfold evFn at h ⊢
 dsimp only [Tb.cx] at h ⊢
 refine ev_lim hf hb c _ _ _ (fun e s' h' => ?_) h
 refine Evt.all fun n => ?_
 cases e with
 | out id => cases h'
 | _ =>
   simp only at h' ⊢
   split at h'
   case h_2 => cases h'
   rename_i vs h1
   have h1':resultsOf (T.cx (rf n) (rb n)) s' rs = some vs:=by rw [resultsOf_cx (rf n) rfi (rb n) rbi]; exact h1
   simp only [h1']; exact h'
theorem evBlk_lim (hf:NearF rfi rf) (hb:NearB rbi rb) {H:Hn} {κ:Nat} {c:BCode} {d:(T.bk κ).ins.ct.denote} {y:(exitsT (T.bk κ).exits).denote}
  (h:evBlk (T.cx rfi rbi) H κ c d = some y):Evt fun n => evBlk (T.cx (rf n) (rb n)) H κ c d = some y:=by
 cases c with
 | tail c =>
   simp only [evBlk] at h ⊢
   exact ev_lim hf hb c _ (fun n e s => packExit (stayRho 0 (T.bk κ).ins.objs) (T.bk κ).exits e s) _ (fun e s' h' => Evt.all fun n => h') h
 | loop id c =>
   simp only [evBlk] at h ⊢
   dsimp only [Tb.cx] at h ⊢
   refine ev_lim hf hb c _ _ _ (fun e s' h' => ?_) h
   cases e with
   | ret => exact Evt.all fun n => h'
   | out id' => exact Evt.all fun n => h'
   | norm =>
     simp only at h' ⊢
     cases hl:lookAll s'.env (T.bk κ).slots with
     | none => rw [hl] at h'; cases h'
     | some vs =>
       simp only [hl] at h' ⊢
       cases hp:packD (T.bk κ).ins (stayRho 0 (T.bk κ).ins.objs) vs s' with
       | none =>
         simp only [hp] at h' ⊢
         cases ha:H.al κ with
         | none => rw [ha] at h'; cases h'
         | some κ2 =>
           simp only [ha] at h' ⊢
           exact enterBlk_lim (T:=T) (k:=fun _ e' s' => packExit (stayRho 0 (T.bk κ).ins.objs) (T.bk κ).exits e' s') hb (fun e s' h'' => Evt.all fun n => h'') h'
       | some p =>
         obtain ⟨d',ρ,s1⟩:=p
         simp only [hp] at h' ⊢
         exact hb κ _ y h'
 | range g ps a b =>
   simp only [evBlk] at h ⊢
   refine ev_lim hf hb a _ (fun n e s => match e with
    | .norm => match b with
      | .block id _ => match H.lk id with
        | some κ2 => enterBlk (T.cx (rf n) (rb n)) κ2 s fun e s => match e with
          | .norm => nextRng (T.cx (rf n) (rb n)) κ g ps s
          | .ret => packExit (stayRho 0 (T.bk κ).ins.objs) (T.bk κ).exits .ret s
          | .out _ => none
        | none => none
      | _ => none
    | _ => none) _ (fun e s' h' => ?_) h
   cases e with
   | ret => cases h'
   | out id' => cases h'
   | norm =>
     cases b with
     | block id c =>
       simp only at h' ⊢
       cases hl:H.lk id with
       | none => rw [hl] at h'; cases h'
       | some κ2 =>
         rw [hl] at h'
         refine enterBlk_lim (T:=T) hb (k:=fun n e s => match e with
          | .norm => nextRng (T.cx (rf n) (rb n)) κ g ps s
          | .ret => packExit (stayRho 0 (T.bk κ).ins.objs) (T.bk κ).exits .ret s
          | .out _ => none) (fun e s2 h2 => ?_) h'
         cases e with
         | norm => exact nextRng_lim hb h2
         | ret => exact Evt.all fun n => h2
         | out id' => cases h2
     | _ => cases h'
end Go.Bm
end
section
open Bool (and_eq_true)
namespace Go.Bm
set_option linter.unusedVariables false
set_option linter.unusedSimpArgs false
def cut:List Bool → Code → Option Code
 | [],c => some c
 | b :: p,.seq x y => match b with
   | true => Bm.cut p y
   | false => Bm.cut p x
 | b :: p,.cond _ x y => match b with
   | true => Bm.cut p y
   | false => Bm.cut p x
 | _ :: p,.block _ c => Bm.cut p c
 | _ :: p,.loop c => Bm.cut p c
 | b :: p,.rangeFunc _ _ x y => match b with
   | true => Bm.cut p y
   | false => Bm.cut p x
 | _,_ => none
def bcode:Code → BCode
 | .block id (.loop c) => .loop id c
 | .block _ (.rangeFunc g ps a b) => .range g ps.toList a b
 | c => .tail c
structure Tbl extends Tb where
 lk:Nat → Nat → Option Nat
 tk:Nat → Nat → Option Nat
 dk:Nat → Nat → Option (List Nat × OrdT)
 al:Nat → Option Nat
 fnum:Nat → Nat
 fn:Nat → Option Func
 place:Nat → Option (Nat × List Bool)
 xf:toTb.RF
def Tbl.hn (T:Tbl) (φ:Nat):Hn:=⟨T.lk φ,T.tk φ,T.dk φ,T.al⟩
noncomputable def Tbl.stepF (T:Tbl) (rf:T.RF) (rb:T.RB):T.RF:=fun f d => match T.fn f with
 | some fn => match fn.body with
   | some c => evFn (T.cx rf rb) (T.hn f) f c fn.results.toList d
   | none => none
 | none => T.xf f d
def Tbl.codeAt (T:Tbl) (κ:Nat):Option (Nat × Code):=match T.place κ with
 | some (f,p) => match T.fn f with
   | some fn => match fn.body with
     | some c => match Bm.cut p c with
       | some c' => some (f,c')
       | none => none
     | none => none
   | none => none
 | none => none
noncomputable def Tbl.stepB (T:Tbl) (rf:T.RF) (rb:T.RB):T.RB:=fun κ d => match T.codeAt κ with
 | some (f,c) => evBlk (T.cx rf rb) (T.hn f) κ (bcode c) d
 | none => none
noncomputable def Tbl.F (T:Tbl):Nat → T.RF × T.RB
 | 0 => (fun _ _ => none,fun _ _ => none)
 | n + 1 => (T.stepF (T.F n).1 (T.F n).2,T.stepB (T.F n).1 (T.F n).2)
noncomputable def lim {A:Type} (g:Nat → Option A):Option A:=by
 classical exact if h:∃ y,Evt fun n => g n = some y then some h.choose else none
theorem lim_some {A:Type} {g:Nat → Option A} {y:A} (h:lim g = some y):Evt fun n => g n = some y:=by
 unfold lim at h
 split at h
 · rename_i hh; cases h; exact hh.choose_spec
 · cases h
theorem lim_of {A:Type} {g:Nat → Option A} {y:A} (h:Evt fun n => g n = some y):lim g = some y:=by
 have hh:∃ y,Evt fun n => g n = some y:=⟨y,h⟩
 unfold lim
 rw [dif_pos hh]
 obtain ⟨N,h⟩:=h
 obtain ⟨M,k⟩:=hh.choose_spec
 have h1:g (max N M) = some y:=h (max N M) (by omega)
 have h2:g (max N M) = some hh.choose:=k (max N M) (by omega)
 rw [← h1,← h2]
noncomputable def Tbl.rf (T:Tbl):T.RF:=fun f d => lim fun n => (T.F n).1 f d
noncomputable def Tbl.rb (T:Tbl):T.RB:=fun κ d => lim fun n => (T.F n).2 κ d
theorem Tbl.nearF (T:Tbl):NearF T.rf fun n => (T.F n).1:=fun f d y h => lim_some h
theorem Tbl.nearB (T:Tbl):NearB T.rb fun n => (T.F n).2:=fun κ d y h => lim_some h
theorem Evt.shift {A:Type} {g:Nat → Option A} {y:A} (h:Evt fun n => g (n + 1) = some y):Evt fun n => g n = some y:=by
 obtain ⟨N,h⟩:=h
 refine ⟨N + 1,fun n hn => ?_⟩
 have:g (n - 1 + 1) = some y:=h (n - 1) (by omega)
 rw [show n - 1 + 1 = n by omega] at this
 exact this
theorem Tbl.rf_of (T:Tbl) {f:Nat} {d:(T.kin f).ct.denote} {y:(outsT (T.kouts f)).denote} (h:T.stepF T.rf T.rb f d = some y):T.rf f d = some y:=by
 refine lim_of (Evt.shift ?_)
 show Evt fun n => T.stepF (T.F n).1 (T.F n).2 f d = some y
 unfold Tbl.stepF at h ⊢
 cases hf:T.fn f with
 | none => simp only [hf] at h ⊢; exact Evt.all fun n => h
 | some fn =>
   simp only [hf] at h ⊢
   cases hc:fn.body with
   | none => rw [hc] at h; cases h
   | some c => simp only [hc] at h ⊢; exact evFn_lim T.nearF T.nearB h
theorem Tbl.rb_of (T:Tbl) {κ:Nat} {d:(T.bk κ).ins.ct.denote} {y:(exitsT (T.bk κ).exits).denote} (h:T.stepB T.rf T.rb κ d = some y):T.rb κ d = some y:=by
 refine lim_of (Evt.shift ?_)
 show Evt fun n => T.stepB (T.F n).1 (T.F n).2 κ d = some y
 unfold Tbl.stepB at h ⊢
 cases hc:T.codeAt κ with
 | none => rw [hc] at h; cases h
 | some p => simp only [hc] at h ⊢; exact evBlk_lim T.nearF T.nearB h
def isAt:Option (Nat × List Bool) → Nat → List Bool → Bool
 | some (g,q),f,p => Nat.beq g f && (q == p)
 | none,_,_ => false
def depsM (ops:Array Oper):List (List Nat):=ops.toList.map fun o => (o.after.toList.filter fun e => Region.binds .any e).map (·.on)
def blksM (ops:Array Oper):List (List Nat):=(List.range ops.size).map fun i => match ops[i]? with
 | some oi => (List.range ops.size).filter fun j => !(j == i || (match ops[j]? with
    | some oj => oj.after.any (fun e => Region.binds .any e && e.on == i) || oi.apart ops oj
    | none => true))
 | none => []
def allM (m:Nat) (o:Option (List Nat)):Bool:=match o with
 | some l => l.all fun j => m.testBit j
 | none => false
def rdyM (D:List (List Nat)) (m i:Nat):Bool:=!m.testBit i && allM m (nth D i)
def rdysM (D:List (List Nat)) (n m:Nat):List Nat:=(List.range n).filter fun i => rdyM D m i
def ordM (N:Nat) (D B:List (List Nat)):Bool → Nat → Nat → OrdT → Bool
 | m,_,l,.done => m && (rdysM D N l).isEmpty
 | m,n + 1,l,.take i t => m && (allM l (nth B i) && (rdyM D l i && ordM N D B true n (l ||| 2 ^ i) t))
 | m,n + 1,l,.only i t => Nat.blt i N && ((!m || (rdyM D l i && (rdysM D N l).all fun j => Nat.beq j i)) && ordM N D B true n (l ||| 2 ^ i) t)
 | m,n + 1,l,.alt i t r => Nat.blt i N && ((!m || (rdyM D l i && (rdysM D N l).all fun j => has (heads (.alt i t r)) j)) && (ordM N D B true n (l ||| 2 ^ i) t && ordM N D B false (n + 1) l r))
 | _,0,_,_ => false
structure BitsM (n:Nat) (listed:Array Bool) (m:Nat):Prop where
 size:listed.size = n
 t:∀ i,listed.getD i true = (m.testBit i || decide (n ≤ i))
 f:∀ i,listed.getD i false = m.testBit i
theorem BitsM.zero (n:Nat):BitsM n (Array.replicate n false) 0 :=
 ⟨by simp,fun i => by by_cases h:i < n <;> simp [Array.getD,h] <;> omega,fun i => by by_cases h:i < n <;> simp [Array.getD,h]⟩
theorem BitsM.set {n:Nat} {listed:Array Bool} {m:Nat} (h:BitsM n listed m) {i:Nat} (hi:i < n):BitsM n (listed.setIfInBounds i true) (m ||| 2 ^ i):=by
 have hs:=h.size
 refine ⟨by simp [hs],fun j => ?_,fun j => ?_⟩
 · have ht:=h.t j
   rw [Nat.testBit_or,Nat.testBit_two_pow]
   by_cases hj:i = j
   · subst hj
     simp [Array.getD,hs,hi]
   · rw [decide_eq_false hj,Bool.or_false,← ht]
     by_cases hjn:j < n <;> simp [Array.getD,hs,hjn,Array.getElem_setIfInBounds,hj]
 · have hf:=h.f j
   rw [Nat.testBit_or,Nat.testBit_two_pow]
   by_cases hj:i = j
   · subst hj
     simp [Array.getD,hs,hi]
   · rw [decide_eq_false hj,Bool.or_false,← hf]
     by_cases hjn:j < n <;> simp [Array.getD,hs,hjn,Array.getElem_setIfInBounds,hj]
theorem nth_depsM (ops:Array Oper) (i:Nat):nth (depsM ops) i = (ops[i]?).map fun o => (o.after.toList.filter fun e => Region.binds .any e).map (·.on):=by
 rw [nth_getElem?,depsM,List.getElem?_map,Array.getElem?_toList]
theorem rdyM_eq {ops:Array Oper} {listed:Array Bool} {m:Nat} (h:BitsM ops.size listed m) {i:Nat} (hi:i < ops.size) :
  (!listed.getD i true && ((ops[i]?).map (·.after.all fun e => !Region.binds .any e || listed.getD e.on false)).getD false) = rdyM (depsM ops) m i:=by
 unfold rdyM
 rw [h.t i,decide_eq_false (by omega),Bool.or_false,nth_depsM]
 congr 1
 cases ho:ops[i]? with
 | none => rfl
 | some o =>
   simp only [Option.map_some,Option.getD_some,allM]
   rw [← Array.all_toList,List.all_map,List.all_filter]
   apply List.all_congr rfl
   intro e
   simp only [Function.comp,h.f]
theorem readyM_eq {ops:Array Oper} {listed:Array Bool} {m:Nat} (h:BitsM ops.size listed m):Region.ready .any ops listed = rdysM (depsM ops) ops.size m:=by
 unfold Region.ready rdysM
 apply List.filter_congr
 intro i hi
 exact rdyM_eq h (List.mem_range.1 hi)
theorem rdyM_lt {ops:Array Oper} {m i:Nat} (h:rdyM (depsM ops) m i = true):i < ops.size:=by
 unfold rdyM at h
 rw [and_eq_true,nth_depsM] at h
 cases ho:ops[i]? with
 | none => rw [ho] at h; exact absurd (show false = true from h.2) (by decide)
 | some o => exact (Array.getElem?_eq_some_iff.1 ho).1
theorem rdyM_mem {ops:Array Oper} {m i:Nat} (h:rdyM (depsM ops) m i = true):(rdysM (depsM ops) ops.size m).contains i = true:=by
 rw [List.contains_iff_mem]
 exact List.mem_filter.2 ⟨List.mem_range.2 (rdyM_lt h),h⟩
theorem freeM {ops:Array Oper} {listed:Array Bool} {m i:Nat} (h:BitsM ops.size listed m) (hi:i < ops.size) (hb:allM m (nth (blksM ops) i) = true):Region.free .any ops listed i = true:=by
 have hn:nth (blksM ops) i = some (match ops[i]? with
   | some oi => (List.range ops.size).filter fun j => !(j == i || (match ops[j]? with
      | some oj => oj.after.any (fun e => Region.binds .any e && e.on == i) || oi.apart ops oj
      | none => true))
   | none => []):=by
  rw [nth_getElem?,blksM,List.getElem?_map,List.getElem?_range hi]; rfl
 rw [hn] at hb
 have ho:ops[i]? = some ops[i]:=Array.getElem?_eq_getElem hi
 unfold Region.free
 rw [ho] at hb ⊢
 simp only [allM,List.all_eq_true] at hb
 simp only [List.all_eq_true]
 intro j hj
 cases hx:(j == i || listed.getD j true || match ops[j]? with
  | some oj => oj.after.any (fun e => Region.binds .any e && e.on == i) || ops[i].apart ops oj
  | none => true) with
 | true => rfl
 | false =>
   simp only [Bool.or_eq_false_iff] at hx
   have h2:=hb j (List.mem_filter.2 ⟨hj,by
    simp only [Bool.not_eq_true',Bool.or_eq_false_iff]
    exact ⟨hx.1.1,hx.2⟩⟩)
   rw [h.t j,h2,Bool.true_or] at hx
   exact absurd hx.1.2 (by decide)
theorem ordM_ordB {ops:Array Oper}:∀ (t:OrdT) (b:Bool) (n:Nat) (listed:Array Bool) (m:Nat),BitsM ops.size listed m → ordM ops.size (depsM ops) (blksM ops) b n m t = true → ordB ops b n listed t = true
 | .done,b,n,listed,m,h,ho => by
   cases n <;> (simp only [ordM,ordB,readyM_eq h] at ho ⊢; exact ho)
 | .take i t,b,0,listed,m,h,ho => by simp [ordM] at ho
 | .only i t,b,0,listed,m,h,ho => by simp [ordM] at ho
 | .alt i t r,b,0,listed,m,h,ho => by simp [ordM] at ho
 | .take i t,b,n + 1,listed,m,h,ho => by
   simp only [ordM,and_eq_true] at ho
   have hi:=rdyM_lt ho.2.2.1
   simp only [ordB,and_eq_true]
   exact ⟨ho.1,freeM h hi ho.2.1,by rw [readyM_eq h]; exact rdyM_mem ho.2.2.1,ordM_ordB t true n _ _ (h.set hi) ho.2.2.2⟩
 | .only i t,b,n + 1,listed,m,h,ho => by
   simp only [ordM,and_eq_true,Bool.or_eq_true] at ho
   simp only [ordB,and_eq_true,Bool.or_eq_true,readyM_eq h]
   have hi:i < ops.size:=by have:=ho.1; rw [Nat.blt_eq] at this; exact this
   exact ⟨ho.2.1.imp id fun g => ⟨rdyM_mem g.1,g.2⟩,ordM_ordB t true n _ _ (h.set hi) ho.2.2⟩
 | .alt i t r,b,n + 1,listed,m,h,ho => by
   simp only [ordM,and_eq_true,Bool.or_eq_true] at ho
   simp only [ordB,and_eq_true,Bool.or_eq_true,readyM_eq h]
   have hi:i < ops.size:=by have:=ho.1; rw [Nat.blt_eq] at this; exact this
   exact ⟨ho.2.1.imp id fun g => ⟨rdyM_mem g.1,g.2⟩,ordM_ordB t true n _ _ (h.set hi) ho.2.2.1,ordM_ordB r false (n + 1) _ _ h ho.2.2.2⟩
def hintsB (T:Tbl) (f n:Nat):(p:List Bool) → Code → Bool
 | p,.seq a b => hintsB T f n (p ++ [false]) a && (match (firstRegion b).bind (T.tk f) with
   | some κ => isAt (T.place κ) f (p ++ [true]) && ((T.bk κ).keep.all fun t => Bound [t] n b)
   | none => hintsB T f n (p ++ [true]) b)
 | p,.block id c => match T.lk f id with
   | some κ => isAt (T.place κ) f p && ((T.bk κ).keep.all fun t => Bound [t] n c)
   | none => hintsB T f n (p ++ [false]) c
 | _,.region id ops true => match T.dk f id with
   | some (_,t) => Region.noSelect ops && ordM ops.size (depsM ops) (blksM ops) true ops.size 0 t
   | none => true
 | p,.cond _ a b => hintsB T f n (p ++ [false]) a && hintsB T f n (p ++ [true]) b
 | p,.loop c => hintsB T f n (p ++ [false]) c
 | _,_ => true
def fnB (T:Tbl) (f:Nat) (fn:Func) (c:Code):Bool :=
 Nat.ble (T.kin f).slots.length fn.ntmps && (Bound [] fn.ntmps c && hintsB T f fn.ntmps [] c)
def notOut (id:Nat):Ex → Bool
 | .out i => !(Nat.beq i id)
 | _ => true
def rngB (T:Tbl) (f n κ:Nat) (p:List Bool) (g:Operand) (ps:List Nat) (assign body:Code):Bool :=
 match ps,g,body with
 | [p0,q0],.tmp t,.block id2 c2 => (plainC assign && (plainC (.block id2 c2) && (Bound [] n assign && (Nat.blt p0 n && Nat.blt q0 n)))) &&
    (Bound [p0] n (.seq assign (.block id2 c2)) && (!(Nat.beq t p0) && (!(Nat.beq t q0) && Bound [t] n (.seq assign (.block id2 c2))))) &&
    ((T.bk κ).slots.all (fun t => Nat.beq t p0 || (Nat.beq t q0 || Bound [t] n (.seq assign (.block id2 c2)))) && ((T.bk κ).exits.all fun x => x.2.1.isEmpty)) &&
    (hintsB T f n (p ++ [false,false]) assign && (match T.lk f id2 with
      | some κ2 => isAt (T.place κ2) f (p ++ [false,true,false]) && (((T.bk κ2).keep.all fun t => Bound [t] n (.block id2 c2)) && (T.bk κ2).exits.all fun x => notOut id2 x.1)
      | none => false))
 | _,_,_ => false
def blkB (T:Tbl) (κ f:Nat) (fn:Func) (p:List Bool) (c:Code):Bool :=
 match bcode c with
 | .loop _ b => Bound [] fn.ntmps b && (hintsB T f fn.ntmps (p ++ [false,false]) b && (match T.al κ with
   | some κ2 => isAt (T.place κ2) f p && (T.bk κ2).keep.all fun t => Bound [t] fn.ntmps b
   | none => true))
 | .tail c => Bound [] fn.ntmps c && hintsB T f fn.ntmps p c
 | .range g ps a b => rngB T f fn.ntmps κ p g ps a b
structure Tbl.Ok (P:Program) (T:Tbl):Prop where
 tab:TabOk P T.tab
 eqt:∀ t fs zs,T.eqt t = true → T.tab t = some (.struct fs zs) → EqOk P t zs
 mt:∀ t name f how,T.mt t name = some (f,how) → MethOk P t name f how
 mixed:P.follows .mixedOrders = true
 gpm:GpMono T.gp
 gvo:∀ w Φ,T.gp w Φ → GvR T.gv w Φ
 it:∀ f e agg,T.it f = some (e,agg) → BackOk P f e agg
 keys:∀ f φ,φ ∈ T.keys f → T.fnum φ = f
 fn : ∀ φ fn, T.fn φ = some fn → P.funcs[T.fnum φ]? = some fn ∧ (fn.name == "runtime.NumGoroutine") = false ∧ ∃ c, fn.body = some c ∧ fnB T φ fn c = true
 blk:∀ κ f p fn c c',T.place κ = some (f,p) → T.fn f = some fn → fn.body = some c → Bm.cut p c = some c' → blkB T κ f fn p c' = true
 ext : ∀ φ d y, T.fn φ = none → T.xf φ d = some y → (∃ fn : Func, P.funcs[T.fnum φ]? = some fn ∧ (fn.name == "runtime.NumGoroutine") = false ∧ fn.body.isNone = false) ∧
  ∀ (w:World) (Φ:Nat → Prop) (vs:List Value) (γ:Loc),T.gp w Φ → InstR w Φ (T.kin φ) (fromD (T.kin φ).cts d) vs γ →
   Calls P (T.fnum φ) vs.toArray w fun e w' => ∃ Φ' γ' rs,e = .returned (retVal rs) ∧ OutR (fun T' ds' => InstR w' Φ' T' ds' rs γ' ∧ PostR w Φ γ (T.kin φ) (fromD (T.kin φ).cts d) w' Φ' γ' T' ds') (T.kouts φ) y
theorem cut_app:∀ (p q:List Bool) (c:Code),Bm.cut (p ++ q) c = (Bm.cut p c).bind (Bm.cut q)
 | [],q,c => rfl
 | b :: p,q,c => by
   cases c <;> first | rfl | (cases b <;> exact cut_app p q _) | exact cut_app p q _
section
variable {P:Program} {T:Tbl} (hT:T.Ok P)
structure Tbl.At (P:Program) (T:Tbl) (n:Nat):Prop where
 all:AllOk P (T.cx (T.F n).1 (T.F n).2)
 blk:∀ κ f p fn c c',T.place κ = some (f,p) → T.fn f = some fn → fn.body = some c → Bm.cut p c = some c' → match bcode c' with
  | .loop id b => ∀ rd,RdC rd c' → RunOk (T.cx (T.F n).1 (T.F n).2) fn.ntmps κ c' fun Q a w => Rounds rd P b (Exit.inBlock id Q) n a w
  | .tail c => BlkOk P (T.cx (T.F n).1 (T.F n).2) fn.ntmps κ c'
  | .range g ps x y => RangeOk P (T.cx (T.F n).1 (T.F n).2) fn.ntmps κ g ps.toArray x y
theorem bcode_loop {c b:Code} {id:Nat} (h:bcode c = .loop id b):c = .block id (.loop b):=by
 unfold bcode at h
 split at h
 · cases h; rfl
 · cases h
 · cases h
theorem bcode_range {c x y:Code} {g:Operand} {ps:List Nat} (h:bcode c = .range g ps x y):∃ id,c = .block id (.rangeFunc g ps.toArray x y):=by
 unfold bcode at h
 split at h
 · cases h
 · cases h; rename_i id ps; exact ⟨id,by rw [show ps.toList.toArray = ps from rfl]⟩
 · cases h
theorem bcode_tail {c b:Code} (h:bcode c = .tail b):c = b ∧ ∀ id g ps x y,c ≠ .block id (.rangeFunc g ps x y):=by
 unfold bcode at h
 split at h
 · cases h
 · cases h
 · rename_i h2
   cases h; exact ⟨rfl,fun id g ps x y e => h2 _ _ _ _ _ e⟩
theorem PieceOk.of {P:Program} {cx:Cx} {n κ:Nat} {c:Code} (hc:∀ id g ps x y,c ≠ .block id (.rangeFunc g ps x y)):PieceOk P cx n κ c = BlkOk P cx n κ c:=by
 unfold PieceOk
 split
 · exact absurd rfl (hc _ _ _ _ _)
 · rfl
theorem Tbl.At.pieceOk {n:Nat} (h:T.At P n) {κ f:Nat} {p:List Bool} {fn:Func} {c c':Code} (h1:T.place κ = some (f,p)) (h2:T.fn f = some fn) (h3:fn.body = some c) (h4:Bm.cut p c = some c') :
  PieceOk P (T.cx (T.F n).1 (T.F n).2) fn.ntmps κ c':=by
 have:=h.blk κ f p fn c c' h1 h2 h3 h4
 cases hb:bcode c' with
 | tail b => rw [hb] at this; rw [PieceOk.of (bcode_tail hb).2]; exact this
 | range g ps x y =>
   rw [hb] at this
   obtain ⟨id,rfl⟩:=bcode_range hb
   exact this
 | loop id b =>
   rw [hb] at this
   have e:=bcode_loop hb
   rw [PieceOk.of (by rw [e]; intro _ _ _ _ _ e2; cases e2)]
   intro rd hrd d y hy w Φ a bs fix B k1 k2 k3 k0 k4 k5 k6
   have g:=this rd hrd d y hy w Φ a bs fix B k1 k2 k3 k0 k4 k5 k6
   rw [e]
   exact Wr.block (Wr.loop n g)
theorem Tbl.At.blkOk {n:Nat} (h:T.At P n) {κ f:Nat} {p:List Bool} {fn:Func} {c c':Code} (h1:T.place κ = some (f,p)) (h2:T.fn f = some fn) (h3:fn.body = some c) (h4:Bm.cut p c = some c') (hc:∀ id g ps x y,c' ≠ .block id (.rangeFunc g ps x y)) :
  BlkOk P (T.cx (T.F n).1 (T.F n).2) fn.ntmps κ c':=by
 have:=h.pieceOk h1 h2 h3 h4
 rwa [PieceOk.of hc] at this
theorem BlkOk.block {P:Program} {cx:Cx} {n κ id:Nat} {c:Code} (hx:∀ x ∈ (cx.bk κ).exits,notOut id x.1 = true) (h:BlkOk P cx n κ c):BlkOk P cx n κ (.block id c):=by
 intro rd hrd d y hy w Φ a γ fix B k1 k2 k3 k0 k4 k5 k6
 refine Wr.block ((h rd hrd d y hy w Φ a γ fix B k1 k2 k3 k0 k4 k5 k6).mono fun e a w g => ?_)
 cases e with
 | exit i =>
   have g0:=g
   obtain ⟨_,_,Φ',γ',_,g2⟩:=g0
   obtain ⟨e,s,T,ds,hm,g3⟩:=g2.mem
   have:i ≠ id:=by
    cases e with
    | out j =>
      have h1:=hx _ hm
      have h2:Exit.exit i = .exit j:=g3.1
      cases h2
      simp only [notOut,Bool.not_eq_true'] at h1
      exact Nat.ne_of_beq_eq_false h1
    | norm => cases g3.1
    | ret => cases g3.1
   show (if i = id then _ else _)
   rw [if_neg this]; exact g
 | _ => exact g
theorem isAt_spec {o:Option (Nat × List Bool)} {f:Nat} {p:List Bool} (h:isAt o f p = true):o = some (f,p):=by
 cases o with
 | none => cases h
 | some x =>
   obtain ⟨g,q⟩:=x
   simp only [isAt,and_eq_true] at h
   rw [Nat.eq_of_beq_eq_true h.1,eq_of_beq h.2]
theorem hints_of {n:Nat} (h:T.At P n) {f:Nat} {fn:Func} {c0:Code} (h2:T.fn f = some fn) (h3:fn.body = some c0):∀ (c:Code) (p:List Bool),Bm.cut p c0 = some c → hintsB T f fn.ntmps p c = true →
  Hints P (T.cx (T.F n).1 (T.F n).2) fn.ntmps (T.hn f) c
 | .seq a b,p,hs,hb => by
   simp only [hintsB,and_eq_true] at hb
   have sa:Bm.cut (p ++ [false]) c0 = some a:=by rw [cut_app,hs]; rfl
   have sb:Bm.cut (p ++ [true]) c0 = some b:=by rw [cut_app,hs]; rfl
   refine ⟨hints_of h h2 h3 a _ sa hb.1,?_⟩
   have hb2:=hb.2
   show (match (firstRegion b).bind (T.tk f) with
    | some κ => BlkOk P (T.cx (T.F n).1 (T.F n).2) fn.ntmps κ b ∧ ∀ t ∈ (T.bk κ).keep,Bound [t] fn.ntmps b = true
    | none => Hints P (T.cx (T.F n).1 (T.F n).2) fn.ntmps (T.hn f) b)
   cases hκ:(firstRegion b).bind (T.tk f) with
   | some κ =>
     rw [hκ] at hb2
     simp only [and_eq_true] at hb2
     exact ⟨h.blkOk (isAt_spec hb2.1) h2 h3 sb (by rintro id g ps x y rfl; cases hκ),fun t ht => List.all_eq_true.1 hb2.2 t ht⟩
   | none =>
     rw [hκ] at hb2
     exact hints_of h h2 h3 b _ sb hb2
 | .block id c,p,hs,hb => by
   simp only [hintsB] at hb
   show (match T.lk f id with
    | some κ => PieceOk P (T.cx (T.F n).1 (T.F n).2) fn.ntmps κ (.block id c) ∧ ∀ t ∈ (T.bk κ).keep,Bound [t] fn.ntmps c = true
    | none => Hints P (T.cx (T.F n).1 (T.F n).2) fn.ntmps (T.hn f) c)
   cases hκ:T.lk f id with
   | some κ =>
     rw [hκ] at hb
     simp only [and_eq_true] at hb
     exact ⟨h.pieceOk (isAt_spec hb.1) h2 h3 hs,fun t ht => List.all_eq_true.1 hb.2 t ht⟩
   | none =>
     rw [hκ] at hb
     exact hints_of h h2 h3 c _ (by rw [cut_app,hs]; rfl) hb
 | .cond _ a b,p,hs,hb => by
   simp only [hintsB,and_eq_true] at hb
   exact ⟨hints_of h h2 h3 a _ (by rw [cut_app,hs]; rfl) hb.1,hints_of h h2 h3 b _ (by rw [cut_app,hs]; rfl) hb.2⟩
 | .loop c,p,hs,hb => hints_of h h2 h3 c _ (by rw [cut_app,hs]; rfl) hb
 | .region id ops true,p,hs,hb => by
   simp only [hintsB] at hb
   intro slots t ht
   have ht':T.dk f id = some (slots,t):=ht
   rw [ht'] at hb
   simp only [and_eq_true] at hb
   exact ⟨hb.1,ordM_ordB t true _ _ _ (BitsM.zero _) hb.2⟩
 | .skip,_,_,_ => trivial
 | .region _ _ false,_,_,_ => trivial
 | .exit _,_,_,_ => trivial
 | .ret,_,_,_ => trivial
 | .rangeFunc _ _ _ _,_,_,_ => trivial
 | .scope _,_,_,_ => trivial
 | .label _,_,_,_ => trivial
 | .goto _,_,_,_ => trivial
 | .refuse _,_,_,_ => trivial
include hT in
theorem Tbl.at:∀ n,T.At P n
 | 0 => ⟨⟨⟨hT.mt,hT.tab,hT.eqt⟩,fun f φ _ d y h => (by cases h),hT.mixed,hT.gpm,hT.gvo,hT.it⟩,fun κ f p fn c c' _ _ _ _ => by
    cases bcode c' with
    | tail b => intro rd _ d y h; cases h
    | range g ps x y => intro d y h; cases h
    | loop id b => intro rd _ d y h; cases h⟩
 | n + 1 => by
   have ih:=Tbl.at n
   have hokn:AllOk P (T.cx (T.F n).1 (T.F n).2):=ih.all
   refine ⟨⟨⟨hT.mt,hT.tab,hT.eqt⟩,fun f φ hφ d y h => ?_,hT.mixed,hT.gpm,hT.gvo,hT.it⟩,fun κ f p fn c c' h1 h2 h3 h4 => ?_⟩
   · change T.stepF (T.F n).1 (T.F n).2 φ d = some y at h
     have hfe:=hT.keys f φ hφ
     subst hfe
     unfold Tbl.stepF at h
     cases hf:T.fn φ with
     | none => rw [hf] at h; exact hT.ext φ d y hf h
     | some fn =>
       obtain ⟨k1,k2,c,k3,k4⟩:=hT.fn φ fn hf
       simp only [hf,k3] at h
       simp only [fnB,and_eq_true] at k4
       exact ⟨⟨fn,k1,k2,by rw [k3]; rfl⟩,fn_sound hokn k1 k3 (Nat.le_of_ble_eq_true k4.1) k4.2.1 (hints_of ih hf k3 c [] rfl k4.2.2) d y h⟩
   · have hB:=hT.blk κ f p fn c c' h1 h2 h3 h4
     have hca:T.codeAt κ = some (f,c'):=by simp only [Tbl.codeAt,h1,h2,h3,h4]
     unfold blkB at hB
     cases hb:bcode c' with
     | tail b =>
       rw [hb] at hB
       simp only [and_eq_true] at hB
       have e:=(bcode_tail hb).1
       subst e
       intro rd hrd d y hy w Φ a γ fix B k1 k2 k3 k0 k4 k5 k6
       change T.stepB (T.F n).1 (T.F n).2 κ d = some y at hy
       simp only [Tbl.stepB,hca,hb] at hy
       exact tail_sound hokn hrd hB.1 (hints_of ih h2 h3 c' p h4 hB.2) hy k1 k2 k3 k0 k4 k5 k6
     | range g ps x y =>
       rw [hb] at hB
       have ihr:=ih.blk κ f p fn c c' h1 h2 h3 h4
       rw [hb] at ihr
       obtain ⟨id,rfl⟩:=bcode_range hb
       intro d z hz
       change T.stepB (T.F n).1 (T.F n).2 κ d = some z at hz
       simp only [Tbl.stepB,hca,hb] at hz
       revert hB
       show rngB T f fn.ntmps κ p g ps x y = true → _
       intro hB
       unfold rngB at hB
       split at hB
       case h_2 => cases hB
       rename_i p0 q0 t id2 c2
       simp only [and_eq_true,Bool.not_eq_true',Bool.or_eq_true] at hB
       obtain ⟨⟨⟨⟨a1,a2,a3,a4,a5⟩,b1,b2,b3,b4⟩,d1,d2⟩,e1,e2⟩:=hB
       cases hl:T.lk f id2 with
       | none => rw [hl] at e2; cases e2
       | some κ2 =>
         rw [hl] at e2
         simp only [and_eq_true] at e2
         refine range_sound hokn (H:=T.hn f) (κ2:=κ2) ⟨a1,a2,a3,Nat.le_of_ble_eq_true a4,Nat.le_of_ble_eq_true a5,b1,⟨t,rfl,Nat.ne_of_beq_eq_false b2,Nat.ne_of_beq_eq_false b3,b4⟩,fun t' ht n1 n2 => ?_,fun x hx => List.isEmpty_iff.1 (List.all_eq_true.1 d2 x hx),fun t ht => List.all_eq_true.1 e2.2.1 t ht⟩
          (hints_of ih h2 h3 x (p ++ [false,false]) (by rw [cut_app,h4]; rfl) e1) hl ((ih.blkOk (isAt_spec e2.1) h2 h3 (by rw [cut_app,h4]; rfl) (by rintro _ _ _ _ _ h; subst h; cases a2)).block fun x hx => List.all_eq_true.1 e2.2.2 x hx) ihr hz
         have g:=List.all_eq_true.1 d1 t' ht
         simp only [Bool.or_eq_true] at g
         rcases g with g | g | g
         · exact absurd (Nat.eq_of_beq_eq_true g) n1
         · exact absurd (Nat.eq_of_beq_eq_true g) n2
         · exact g
     | loop id b =>
       rw [hb] at hB
       simp only [and_eq_true] at hB
       have e:=bcode_loop hb
       intro rd hrd d y hy w Φ a γ fix B k1 k2 k3 k0 k4 k5 k6
       change T.stepB (T.F n).1 (T.F n).2 κ d = some y at hy
       simp only [Tbl.stepB,hca,hb] at hy
       have ihl:=ih.blk κ f p fn c c' h1 h2 h3 h4
       rw [hb] at ihl
       have k1':∀ t v,fix t = some v → Bound [t] fn.ntmps b = true:=fun t v hv => by have:=k1 t v hv; rw [e] at this; exact this
       have hrd':RdC rd b:=by rw [e] at hrd; exact hrd
       refine loop_sound hokn hrd' hB.1 (hints_of ih h2 h3 b (p ++ [false,false]) (by rw [cut_app,h4,e]; rfl) hB.2.1) (fun d' y' hy' w' Φ' a' γ' fix' B' g1 => ihl rd hrd d' y' hy' w' Φ' a' γ' fix' B' (fun t v hv => by rw [e]; exact g1 t v hv)) (fun κ2 hκ2 => ?_) hy k1' k2 k3 k0 k4 k5 k6
       have hκ2':T.al κ = some κ2:=hκ2
       have h6:=hB.2.2
       rw [hκ2'] at h6
       simp only [and_eq_true] at h6
       have ih2:=ih.blk κ2 f p fn c c' (isAt_spec h6.1) h2 h3 h4
       rw [hb] at ih2
       exact ⟨fun d' y' hy' w' Φ' a' γ' fix' B' g1 => ih2 rd hrd d' y' hy' w' Φ' a' γ' fix' B' (fun t v hv => by rw [e]; exact g1 t v hv),fun t ht => List.all_eq_true.1 h6.2 t ht⟩
include hT in
theorem Tbl.sound {φ f:Nat} {d:(T.kin φ).ct.denote} {y:(outsT (T.kouts φ)).denote} (h:T.rf φ d = some y) (hφ:φ ∈ T.keys f)
  {w:World} {Φ:Nat → Prop} {vs:List Value} {γ:Loc} (hg:T.gp w Φ) (h1:InstR w Φ (T.kin φ) (fromD (T.kin φ).cts d) vs γ) :
  Calls P f vs.toArray w fun e w' => ∃ Φ' γ' rs,e = .returned (retVal rs) ∧ OutR (fun T' ds' => InstR w' Φ' T' ds' rs γ' ∧ PostR w Φ γ (T.kin φ) (fromD (T.kin φ).cts d) w' Φ' γ' T' ds') (T.kouts φ) y:=by
 obtain ⟨N,hN⟩:=lim_some h
 exact ((Tbl.at hT N).all.fn f φ hφ d y (hN N (Nat.le_refl _))).2 w Φ vs γ hg h1
end
end Go.Bm
end
