import Derived.Test.YtelpjfihadaomaaGreatDoorRes
import Derived.Shelf.SlMaps.Clone
import Derived.WalkKit
import Derived.Shelf.GgClosure.StringsIndexFuncTop
import Derived.BigCall
import Derived.Test.YtelpjfihadaomaaGreatDoorResOk
import Derived.Test.YtelpjfihadaomaaGreatDoorRows
import Derived.Stop.LaidErr
import Derived.MakeChecks
import Derived.LaidMore
section
set_option linter.unusedVariables false
namespace Go.Proofs
open Go.Shelf Go.RowKit
set_option maxHeartbeats 2000000 in
set_option maxRecDepth 100000 in
theorem Tryz.b0S (b:Nat) (es:Array MapEntry) (clock:Nat) (w:World) (hb:w.heap[b]? = some (.map es clock)) :
  Calls Tryz.prog 55 #[.map (some b)] w fun e w' => e = .returned (.map (some w.heap.size)) ∧ w' = w.alloc (.map es clock):=by
 have hq:=fun w => run_eql_map_nil_sl (P:=Tryz.prog) w 59 _ _ (some b) Tryz.underlying59
 go_enter Tryz.func55,Tryz.ntmps55
 go_wp2
 rw [run_callFunc_extern Tryz.func96 (by kernel_rfl) (by kernel_rfl) (by kernel_rfl) (e:=Extern.MapsClone.clone) (by kernel_rfl),run_maps_clone_sl w 59 hb]
 simp only [Result.andThen]
 rw [Oper.upon_value]
 go_wp2
 rw [run_typeAssert_map_sl _ 59 20 _ _ _ Tryz.underlying59]
 simp only [Result.andThen]
 rw [Oper.upon_value]
 go_wp2
 go_ret
 exact ⟨rfl,rfl⟩
#print axioms Tryz.b0S
end Go.Proofs
end
section
set_option linter.unusedVariables false
namespace Go.Proofs
open Go.Shelf Go.RowKit Go.Lib
def Tryz.c4u:Go.Shelf.Ren:=⟨fun | 15 => 111 | 20 => 146 | n => n,fun | 9 => 9 | 23 => 117 | 3 => 3 | 4 => 4 | 0 => 0 | 21 => 21 | n => n,fun | n => n⟩
theorem Tryz.l15:Go.Proofs.LaysGw.n15 Tryz.prog Tryz.c4u:={
 mixed:=by kernel_rfl
 f15:=Tryz.func111.trans (congrArg some (by kernel_rfl))
 f20:=Tryz.func146.trans (congrArg some (by kernel_rfl))
 t0:=Tryz.underlying0
 a0:=Tryz.isAgg0
 z0:=Tryz.sizeOf0
 v0:=Tryz.zeroValue0
 i0:=by kernel_rfl
 t3:=Tryz.underlying3
 a3:=Tryz.isAgg3
 z3:=Tryz.sizeOf3
 v3:=Tryz.zeroValue3
 i3:=by kernel_rfl
 t4:=Tryz.underlying4
 a4:=Tryz.isAgg4
 z4:=Tryz.sizeOf4
 v4:=Tryz.zeroValue4
 i4:=by kernel_rfl
 t9:=Tryz.underlying9
 a9:=Tryz.isAgg9
 z9:=Tryz.sizeOf9
 v9:=Tryz.zeroValue9
 i9:=by kernel_rfl
 t21:=Tryz.underlying21
 a21:=Tryz.isAgg21
 z21:=Tryz.sizeOf21
 v21:=Tryz.zeroValue21
 i21:=by kernel_rfl
 t23:=Tryz.underlying117
 a23:=Tryz.isAgg117
 z23:=Tryz.sizeOf117
 v23:=Tryz.zeroValue117
 i23:=by kernel_rfl }
def D7 (r:Nat):Bool:=(decide (97 ≤ r) && decide (r ≤ 122)) || decide (r = 95) || (decide (48 ≤ r) && decide (r ≤ 57))
set_option maxHeartbeats 1000000 in
theorem Tryz.d2b (r:Nat) (W:World):Calls Tryz.prog 80 #[.int .i32 r] W fun e w' => e = .returned (.bool (D7 r)) ∧ w' = W:=by
 by_cases h1:97 ≤ r <;> by_cases h2:r ≤ 122 <;> by_cases h3:r = 95 <;> by_cases h4:48 ≤ r <;> by_cases h5:r ≤ 57
 all_goals first | (exfalso; omega) | skip
 all_goals
  have z1:(97:Int) ≤ (r:Int) ↔ 97 ≤ r:=by omega
  have z2:(r:Int) ≤ 122 ↔ r ≤ 122:=by omega
  have z3:(r:Int) = 95 ↔ r = 95:=by omega
  have z4:(48:Int) ≤ (r:Int) ↔ 48 ≤ r:=by omega
  have z5:(r:Int) ≤ 57 ↔ r ≤ 57:=by omega
  go_enter Tryz.func80,Tryz.ntmps80
  go_wp2
  all_goals first | (exfalso; omega) | (go_ret; exact ⟨by simp [D7,h1,h2,h3,h4,h5] <;> omega,rfl⟩)
set_option maxHeartbeats 1000000 in
theorem Tryz.c4y (w:World) (B:Nat) (hB:B < w.heap.size) (hc:w.cell? ⟨B,0,none⟩ = some (.func (.func 80) #[] #[])) :
  PredAt Tryz.prog 112 #[.pointer (some ⟨B,0,none⟩)] encR (fun r => !(D7 r)) w:=fun W r hb => by
 have hc':W.cell? ⟨B,0,none⟩ = some (.func (.func 80) #[] #[]):=(hb.cell (p:=⟨B,0,none⟩) hB).trans hc
 unfold FnGives
 go_enter Tryz.func112,Tryz.ntmps112
 go_wp2_with (go_at_call 80; refine (Tryz.d2b r W).mono ?_; rintro e w' ⟨rfl,rfl⟩)
 go_ret
 exact ⟨rfl,0,rfl⟩
open Go.Bm in
theorem b1Z (c:UInt8):Y8 c = D7 c.toNat:=by
 unfold Y8 D7
 have e1:∀ a b:Nat,Nat.ble a b = decide (a ≤ b):=fun a b => by
  cases h:Nat.ble a b with
  | true => simp [Nat.le_of_ble_eq_true h]
  | false => have:¬ a ≤ b:=fun hh => by rw [Nat.ble_eq_true_of_le hh] at h; cases h
             simp [this]
 have e2:∀ a b:Nat,Nat.beq a b = decide (a = b):=fun a b => by
  cases h:Nat.beq a b with
  | true => simp [Nat.eq_of_beq_eq_true h]
  | false => have:¬ a = b:=Nat.ne_of_beq_eq_false h
             simp [this]
 simp only [e1,e2]
open Go.Bm in
theorem b3W (s:ByteArray):∀ (f pos:Nat),s.size ≤ pos + f →
  (idxFuncFrom (fun r => !(D7 r)) true s f pos < 0 → a2B (s.data.toList.drop pos) = s.data.toList.drop pos) ∧
  (0 ≤ idxFuncFrom (fun r => !(D7 r)) true s f pos → idxFuncFrom (fun r => !(D7 r)) true s f pos ≤ s.size ∧ (pos:Int) ≤ idxFuncFrom (fun r => !(D7 r)) true s f pos ∧
    a2B (s.data.toList.drop pos) = (s.data.toList.drop pos).take ((idxFuncFrom (fun r => !(D7 r)) true s f pos).toNat - pos))
 | 0,pos,h => by
   have hl:s.data.toList.drop pos = []:=by
    apply List.drop_of_length_le; rw [← Lib.size_eq]; omega
   rw [hl]
   exact ⟨fun _ => rfl,fun h0 => by simp [idxFuncFrom] at h0⟩
 | f + 1,pos,h => by
   by_cases hp:pos < s.size
   · have hlt:pos < s.data.toList.length:=by rw [← Lib.size_eq]; exact hp
     have hd:s.data.toList.drop pos = s.data.toList[pos] :: s.data.toList.drop (pos + 1):=List.drop_eq_getElem_cons hlt
     have hc:s.data.toList[pos] = s[pos]'hp:=by
      rw [Array.getElem_toList]; rfl
     rw [hc] at hd
     have hnot:∀ r,(Utf8.decode s pos).1 = r → D7 r = false → Y8 (s[pos]'hp) = false →
       (idxFuncFrom (fun r => !(D7 r)) true s (f + 1) pos < 0 → a2B (s.data.toList.drop pos) = s.data.toList.drop pos) ∧
       (0 ≤ idxFuncFrom (fun r => !(D7 r)) true s (f + 1) pos → idxFuncFrom (fun r => !(D7 r)) true s (f + 1) pos ≤ s.size ∧ (pos:Int) ≤ idxFuncFrom (fun r => !(D7 r)) true s (f + 1) pos ∧
         a2B (s.data.toList.drop pos) = (s.data.toList.drop pos).take ((idxFuncFrom (fun r => !(D7 r)) true s (f + 1) pos).toNat - pos)):=by
      intro r hr h1 h2
      have e:idxFuncFrom (fun r => !(D7 r)) true s (f + 1) pos = (pos:Int):=by
       unfold idxFuncFrom
       rw [if_pos hp,if_pos (by simp [hr,h1])]
      rw [e]
      refine ⟨fun h => by omega,fun _ => ⟨by omega,Int.le_refl _,?_⟩⟩
      rw [hd]
      simp only [a2B,h2,cond_false,Int.toNat_natCast,Nat.sub_self,List.take_zero]
     by_cases ha:(s[pos]'hp).toNat < 128
     · have hdec:=decode_ascii s pos hp ha
       cases hpart:D7 (s[pos]'hp).toNat with
       | false => exact hnot _ (by rw [hdec]) hpart (by rw [b1Z]; exact hpart)
       | true =>
         have e:idxFuncFrom (fun r => !(D7 r)) true s (f + 1) pos = idxFuncFrom (fun r => !(D7 r)) true s f (pos + 1):=by
          conv => lhs; unfold idxFuncFrom
          rw [if_pos hp,hdec]
          simp [hpart]
         have hB:Y8 (s[pos]'hp) = true:=by rw [b1Z]; exact hpart
         obtain ⟨i1,i2⟩:=b3W s f (pos + 1) (by omega)
         rw [e,hd]
         simp only [a2B,hB,cond_true]
         refine ⟨fun h0 => by rw [i1 h0],fun h0 => ?_⟩
         obtain ⟨j1,j2,j3⟩:=i2 h0
         refine ⟨j1,by omega,?_⟩
         rw [j3]
         obtain ⟨m,hm⟩:∃ m:Nat,idxFuncFrom (fun r => !(D7 r)) true s f (pos + 1) = (m:Int):=⟨_,(Int.toNat_of_nonneg h0).symm⟩
         rw [hm] at j2 ⊢
         have:(m:Int).toNat - pos = ((m:Int).toNat - (pos + 1)) + 1:=by simp only [Int.toNat_natCast]; omega
         rw [this,List.take_succ_cons]
     · have hh:=(decode_high s pos hp (by omega)).1
       refine hnot _ rfl ?_ ?_
       · unfold D7; simp; omega
       · rw [b1Z]; unfold D7; simp; omega
   · have hl:s.data.toList.drop pos = []:=by
      apply List.drop_of_length_le; rw [← Lib.size_eq]; omega
     have e:=idxFuncFrom_end (fun r => !(D7 r)) true s (f + 1) pos hp
     rw [hl,e]
     exact ⟨fun _ => rfl,fun h0 => by omega⟩
open Go.Bm in
set_option maxHeartbeats 1000000 in
theorem Tryz.row (s:ByteArray) (w:World) :
  Calls Tryz.prog 79 #[.string s,.func (.func 80) #[] #[]] w fun e w' => (∃ t:ByteArray,e = .returned (.string t) ∧ t.data.toList = a2B s.data.toList) ∧ Below w.heap.size w w':=by
 have hC:=fun (W:World) (hB:w.heap.size < W.heap.size) (hc:W.cell? ⟨w.heap.size,0,none⟩ = some (.func (.func 80) #[] #[])) =>
  Any.strings_IndexFunc Tryz.l15 112 #[.pointer (some ⟨w.heap.size,0,none⟩)] (enters_of Tryz.func112 (by kernel_rfl) rfl) _ s W (Tryz.c4y W w.heap.size hB hc)
 change ∀ W _ _,Calls Tryz.prog 111 _ _ _ at hC
 obtain ⟨r1,r2⟩:=b3W s s.size 0 (by omega)
 change (idxFunc (fun r => !(D7 r)) true s < 0 → _) at r1
 change (0 ≤ idxFunc (fun r => !(D7 r)) true s → idxFunc (fun r => !(D7 r)) true s ≤ _ ∧ _ ≤ idxFunc (fun r => !(D7 r)) true s ∧ _ = List.take ((idxFunc (fun r => !(D7 r)) true s).toNat - 0) _) at r2
 generalize idxFunc (fun r => !(D7 r)) true s = n at hC r1 r2
 have b0:Below w.heap.size w (w.alloc (.cells #[.func (.func 80) #[] #[]] 117)):=(Below.refl _ w).alloc (Nat.le_refl _) _
 by_cases hn:n < 0
 · go_enter Tryz.func79,Tryz.ntmps79
   go_wp2_with (go_at_call 111; refine (hC _ (by simp) (by simp)).mono ?_; rintro e w' ⟨rfl,hb⟩)
   go_ret
   exact ⟨⟨s,rfl,by simpa using (r1 hn).symm⟩,b0.trans (hb.mono (by simp))⟩
 · have h0:0 ≤ n:=by omega
   obtain ⟨j1,_,j3⟩:=r2 h0
   go_enter Tryz.func79,Tryz.ntmps79
   go_wp2_with (go_at_call 111; refine (hC _ (by simp) (by simp)).mono ?_; rintro e w' ⟨rfl,hb⟩)
   go_ret
   refine ⟨⟨_,rfl,?_⟩,b0.trans (hb.mono (by simp))⟩
   rw [List.drop_zero] at j3
   rw [j3]
   simp [ByteArray.data_extract]
#print axioms Tryz.row
end Go.Proofs
end
section
set_option linter.unusedVariables false
namespace Go.Proofs.YtelpjfihadaomaaGreatDoor.R
open Go Go.Bm Go.Proofs Go.RowKit
theorem d4G:b5S Tryz.prog T 70:=by
 intro d y h
 change List UInt8 at d
 change List UInt8 at y
 have h:some (a2B d) = some y:=h
 cases h
 refine ⟨⟨_,Tryz.func79,by kernel_rfl,by kernel_rfl⟩,fun w Φ vs γ hg hi => ?_⟩
 have hv:E9 w Φ γ [] [.one (.str d),.one (.fn 80 [] [])] vs:=hi.M4
 obtain ⟨v1,vs1,rfl,⟨s,rfl,hs⟩,v2,vs2,rfl,⟨us,vs',rfl,hxs,hys⟩,rfl⟩:=hv
 obtain rfl:us = #[]:=by simpa [a5g] using hxs
 obtain rfl:vs' = #[]:=by simpa [a5g] using hys
 refine (Tryz.row s w).mono fun e w' h => ?_
 obtain ⟨⟨t,he,ht⟩,hb⟩:=h
 subst he
 exact ⟨Φ,fun _ => none,[.string t],rfl,c0o (T:=T.kin 70) (T':=⟨[],[.one (.pl .str)]⟩) (ds':=[⟨.str,a2B d⟩]) rfl rfl hi hb ⟨_,_,rfl,⟨t,rfl,by rw [ht,hs]⟩,rfl⟩⟩
theorem d1U:b5S Tryz.prog T 137:=by
 intro d y h
 change List (List UInt8 × Bool) at d
 change List (List UInt8 × Bool) × List (List UInt8 × Bool) at y
 have h:some (d,d) = some y:=h
 cases h
 refine ⟨⟨_,Tryz.func55,by kernel_rfl,by kernel_rfl⟩,fun w Φ vs γ hg hi => ?_⟩
 have hv:E9 w Φ γ [(0,.map .str .bool false d)] [.one (.mp 0)] vs:=hi.M4
 obtain ⟨v1,vs1,rfl,⟨b,hb0,rfl⟩,rfl⟩:=hv
 have hp:HpR w Φ γ ⟨[],[(0,.map .str .bool false d)],1,[]⟩:=hi.hp
 obtain ⟨b',es,clock,hb1,hnf,hbk,hen,hbo⟩:ObR w Φ γ [(0,.map .str .bool false d)] 0 (.map .str .bool false d):=hp.ob 0 _ rfl
 rw [hb0] at hb1
 obtain rfl:b = b':=by
  have:=Option.some.inj (Option.some.inj hb1); exact (Prod.mk.inj this).1
 refine (Tryz.b0S b es clock w hbk).mono fun e w' h => ?_
 obtain ⟨he,hw⟩:=h
 subst he
 subst hw
 have hblt:b < w.heap.size:=hp.blt 0 b 0 hb0
 have hnew:=heap_alloc_new w (.map es clock)
 have hold:∀ c,c < w.heap.size → (w.alloc (.map es clock)).heap[c]? = w.heap[c]?:=fun c hc => E2 w _ hc
 have hsz:(w.alloc (.map es clock)).heap.size = w.heap.size + 1:=by simp
 have hen':a3Z (w.alloc (.map es clock)) Φ .str .bool false d es.toList:=a0q (k:=.str) (v:=.bool) (fun c hc => hold c (hp.flt c hc)) (fun _ h => h) d es.toList hen
 have hnf':¬ Φ w.heap.size:=fun h => Nat.lt_irrefl _ (hp.flt _ h)
 let γ':Nat → Option (Option (Nat × Nat)):=fun k => if k = 0 then some (some (b,0)) else if k = 1 then some (some (w.heap.size,0)) else none
 have g0:γ' 0 = some (some (b,0)):=rfl
 have g1:γ' 1 = some (some (w.heap.size,0)):=rfl
 have gn:∀ k x,γ' k = some x → (k = 0 ∧ x = some (b,0)) ∨ (k = 1 ∧ x = some (w.heap.size,0)):=fun k x h => by
  simp only [γ'] at h
  split at h
  · rename_i e; exact .inl ⟨e,(Option.some.inj h).symm⟩
  split at h
  · rename_i e; exact .inr ⟨e,(Option.some.inj h).symm⟩
  · cases h
 have lk:∀ k o,Bm.look [(0,SObj.map .str .bool false d),(1,SObj.map .str .bool false d)] k = some o → (k = 0 ∨ k = 1) ∧ o = .map .str .bool false d:=fun k o h => by
  rw [Bm.g9] at h
  split at h
  · rename_i e; exact ⟨.inl e.symm,(Option.some.inj h).symm⟩
  rw [Bm.g9] at h
  split at h
  · rename_i e; exact ⟨.inr e.symm,(Option.some.inj h).symm⟩
  · cases h
 have lk1:∀ k o,Bm.look [(0,SObj.map .str .bool false d)] k = some o → k = 0 ∧ o = .map .str .bool false d:=fun k o h => by
  rw [Bm.g9] at h
  split at h
  · rename_i e; exact ⟨e.symm,(Option.some.inj h).symm⟩
  · cases h
 refine ⟨Φ,γ',[.map (some w.heap.size)],rfl,⟨?_,?_⟩,?_⟩
 · exact ⟨_,_,rfl,⟨w.heap.size,g1,rfl⟩,rfl⟩
 · refine ⟨fun k o h => ?_,fun k x h => ?_,fun k o h => ?_,fun k k' o o' c p p' h1 h2 _ _ h3 h4 => ?_,fun k c p h => ?_,fun c h => ?_,fun k o c h1 h2 => ?_,fun k k' o o' c h1 h2 h3 _ => ?_⟩
   · obtain ⟨hk,rfl⟩:=lk k o h
     rcases hk with rfl | rfl
     · exact ⟨b,es,clock,g0,hnf,(hold b hblt).trans hbk,hen',hbo⟩
     · exact ⟨w.heap.size,es,clock,g1,hnf',hnew,hen',hbo⟩
   · show k < 2
     rcases gn k x h with ⟨e,_⟩ | ⟨e,_⟩ <;> omega
   · show k < 2
     obtain ⟨hk,_⟩:=lk k o h
     omega
   · rcases gn k _ h3 with ⟨e1,q1⟩ | ⟨e1,q1⟩ <;> rcases gn k' _ h4 with ⟨e2,q2⟩ | ⟨e2,q2⟩
     · omega
     · exfalso; simp only [Option.some.injEq,Prod.mk.injEq] at q1 q2; omega
     · exfalso; simp only [Option.some.injEq,Prod.mk.injEq] at q1 q2; omega
     · omega
   · show c < (w.alloc (.map es clock)).heap.size
     rcases gn k _ h with ⟨_,q⟩ | ⟨_,q⟩ <;> (simp only [Option.some.injEq,Prod.mk.injEq] at q; omega)
   · have:=hp.flt c h
     show c < (w.alloc (.map es clock)).heap.size
     omega
   · obtain ⟨_,rfl⟩:=lk k o h1
     exact absurd h2 (n9 rfl)
   · obtain ⟨_,rfl⟩:=lk k o h1
     exact absurd h3 (n9 rfl)
 · refine ⟨⟨rfl,rfl,rfl,by omega,fun c hc _ => hold c hc⟩,fun c hc => ?_,fun _ h => h,fun _ h => .inl h,fun k hk => ⟨fun x hx => ?_,fun x hx r hr => ?_,fun c o r h1 h2 => ?_⟩⟩
   · rcases hc with ⟨id,ob,p,h1,_,h3⟩ | ⟨id,ob,h1,h2⟩
     · rcases gn id _ h3 with ⟨e,q⟩ | ⟨e,q⟩
       · simp only [Option.some.injEq,Prod.mk.injEq] at q
         refine .inl (.inl ⟨0,.map .str .bool false d,0,rfl,rfl,?_⟩)
         rw [hb0,q.1]
       · simp only [Option.some.injEq,Prod.mk.injEq] at q
         exact .inr (by omega)
     · obtain ⟨_,rfl⟩:=lk id ob h1
       exact absurd h2 (n9 rfl)
   · obtain ⟨o,ho⟩:=hk
     have hk0:k = 0:=by
      have:k < 1:=hp.lt k x hx
      omega
     subst hk0
     rw [hb0] at hx
     cases hx
     exact g0
   · exfalso
     have hr:rowOf (Bm.look [(0,SObj.map .str .bool false d),(1,SObj.map .str .bool false d)] k) = some r:=hr
     cases hl:Bm.look [(0,SObj.map .str .bool false d),(1,SObj.map .str .bool false d)] k with
     | none => rw [hl] at hr; cases hr
     | some o =>
       obtain ⟨_,rfl⟩:=lk k o hl
       rw [hl] at hr; cases hr
   · exfalso
     have hr:rowOf (Bm.look [(0,SObj.map .str .bool false d),(1,SObj.map .str .bool false d)] k) = some r:=h2
     cases hl:Bm.look [(0,SObj.map .str .bool false d),(1,SObj.map .str .bool false d)] k with
     | none => rw [hl] at hr; cases hr
     | some o =>
       obtain ⟨_,rfl⟩:=lk k o hl
       rw [hl] at hr; cases hr
theorem ok':T.Ok Tryz.prog:=ok (d1V d4G d1U)
end Go.Proofs.YtelpjfihadaomaaGreatDoor.R
end
section
set_option linter.unusedVariables false
set_option linter.unusedSimpArgs false
namespace Go.Bm
open Go.ChangeShapes Go.WideShapes Go.ChangeAt Go.RowKit
theorem b5b {P:Program} {W:World} {t e:TypeId} {fuel:Nat} {cs:List Value} {l:List (List UInt8)} {p:List MemPlace} (hl:l ≠ []) (ht:P.underlying t = some (.slice e)) (he:P.underlying e = some .string) (hce:P.cellsOf e = 1)
  (h:DataW.trod (fun _ => ()) P W 0 (fun _ => true) false fuel t cs = some (.slice (l.map fun s => .lit (.string s)) [],p)):VC W (fun b => b < W.heap.size) (.list .str) l cs:=by
 rcases DataW.trod_slice ht h with ⟨_,hx⟩ | ⟨a,len,cap,elems,rest,m,_,rfl,hx,hb,hlc,hcm,hel,hels,_⟩
 · cases hx
 · simp only [Prod.mk.injEq,DataW.slice.injEq] at hx
   have hmap:=hx.1.1
   have hlen:l.length = len:=by have:=congrArg List.length hmap; simpa [hel] using this
   have each:∀ i x,l[i]? = some x → W.cell? (a.add i) ≠ none ∧ ∃ s:ByteArray,s.data.toList = x ∧ W.cell? (a.add i) = some (.string s):=by
    intro i x hix
    have hi:i < len:=by rw [← hlen]; exact (List.getElem?_eq_some_iff.1 hix).1
    have h1:=hels i hi
    have h2:elems[i]? = some elems[i]:=List.getElem?_eq_getElem (by omega)
    rw [h2] at h1
    obtain ⟨cs,hcs,htr⟩:=Option.bind_eq_some_iff.1 h1
    obtain ⟨k1,k2⟩:=a7Q hcs
    obtain ⟨s,rfl,e2,_⟩:=DataW.trod_string he htr
    have h3:(elems.map (·.1))[i]? = some (.lit (.string x)):=by rw [← hmap,List.getElem?_map,hix]; rfl
    rw [List.getElem?_map,h2] at h3
    simp only [Option.map_some,Option.some.injEq] at h3
    rw [e2] at h3
    simp only [DataW.lit.injEq,Lit.string.injEq] at h3
    have h4:=k2 0 (by rw [hce]; exact Nat.one_pos)
    have h5:(a.add (i * P.cellsOf e)).add 0 = a.add i:=by rw [hce]; simp [Addr.add]
    rw [h5] at h4
    exact ⟨by rw [h4]; simp,s,h3,by rw [h4]; rfl⟩
   have h0:∃ x,l[0]? = some x:=by
    cases l with
    | nil => exact absurd rfl hl
    | cons x r => exact ⟨x,rfl⟩
   obtain ⟨x0,hx0⟩:=h0
   obtain ⟨_,s0,_,hc0⟩:=each 0 x0 hx0
   obtain ⟨k1,k2⟩:=a5r hc0
   obtain ⟨ab,ao,asp⟩:=a
   have hsp:asp = none:=by simpa [Addr.add] using k1
   subst hsp
   refine ⟨some ⟨ab,ao,none⟩,cap,by rw [hlen],by omega,.inr ⟨ab,ao,rfl,by simpa [Addr.add] using k2,fun i x hx => ?_⟩⟩
   rw [nth_getElem?] at hx
   obtain ⟨_,s,e1,e2⟩:=each i x hx
   rw [Addr.S7] at e2
   exact ⟨[.string s],⟨by simpa [CT.size] using e2,trivial⟩,s,rfl,e1⟩
theorem b2N {P:Program} {W:World} {n:String} {g:Nat} {cs:Array Value} (hg:P.globalNamed n = some g) (hv:W.var? P n = some cs):m5 W g 0 cs.toList:=by
 refine I0 _ _ _ fun j v hj => ?_
 have:=World.var?_cell hg hv j
 rw [Nat.zero_add,this]
 simpa using hj
end Go.Bm
namespace Go.Proofs.YtelpjfihadaomaaGreatDoor
open Go.Bm Go.ChangeShapes Go.WideShapes Go.ChangeAt Go.RowKit
set_option maxRecDepth 100000 in
theorem of_laid {W : World} (h : laidMetH Tryz.prog [("bailment/lex.words", Rows.laid_bailment_lex_words)] W) :
  c2N 0 W (fun b => b < W.heap.size):=by
 rw [MakeChecks.laidMetH_plain _ _ _ (by kernel_rfl)] at h
 have h2 : laidMet Tryz.prog [("bailment/lex.words", .slice (s6.map fun s => .lit (.string s)) [])] W := h
 have g0 : Tryz.prog.globalNamed "bailment/lex.words" = some 0 := by kernel_rfl
 obtain ⟨ps,⟨g,t,cs,fuel,p,q,hg,ht,hv,hd,_,_⟩,_⟩:=h2
 obtain rfl:=Option.some.inj (g0.symm.trans hg)
 obtain rfl:=Option.some.inj ((show (Tryz.prog.globals[0]?).map (·.type) = some 123 by kernel_rfl).symm.trans ht)
 have hvc:=b5b (by decide) Tryz.underlying123 Tryz.underlying9 (by kernel_rfl) hd
 have hca:=b2N g0 hv
 have lt:∀ (g:Nat) (n:String) (cs:Array Value),Tryz.prog.globalNamed n = some g → W.var? Tryz.prog n = some cs → g < W.heap.size:=by
  intro g n cs hg hv
  unfold World.var? at hv
  rw [hg] at hv
  simp only [Option.bind_some] at hv
  rcases Nat.lt_or_ge g W.heap.size with h | h
  · exact h
  · rw [Array.getElem?_eq_none h] at hv; cases hv
 intro g d hgd
 rw [g9] at hgd
 split at hgd
 · rename_i e
   subst e
   cases hgd
   exact ⟨lt 0 _ _ g0 hv,cs.toList,hca,hvc⟩
 · cases hgd
end Go.Proofs.YtelpjfihadaomaaGreatDoor
end
