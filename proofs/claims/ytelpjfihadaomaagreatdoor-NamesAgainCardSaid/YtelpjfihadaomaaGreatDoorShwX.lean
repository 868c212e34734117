import Derived.Test.YtelpjfihadaomaaGreatDoorTreX
import Derived.Test.YtelpjfihadaomaaGreatDoorBmF
open Option (bind_some)
section
namespace Go.Proofs.YtelpjfihadaomaaGreatDoor.R
open Go Go.Bm Go.Proofs
set_option linter.unusedVariables false
set_option linter.unusedSimpArgs false
set_option maxRecDepth 4000
def a6W (s:List UInt8):Bool:=decide (s ∈ s6)
theorem b6q:∀ s:List UInt8,ltB s s = false
 | [] => rfl
 | a :: s => by
   have:¬ a < a:=by simp
   simp only [ltB,df this,b6q s,Bool.and_false,Bool.or_false]
theorem a5G:∀ {a b c:List UInt8},ltB a b = true → ltB b c = true → ltB a c = true
 | a,[],c,h,_ => by
   have:ltB a [] = false:=by cases a <;> rfl
   rw [this] at h; cases h
 | a,y :: b,[],_,h => by cases h
 | [],y :: b,z :: c,_,_ => rfl
 | x :: a,y :: b,z :: c,h,k => by
   simp only [ltB,Bool.or_eq_true,Bool.and_eq_true,decide_eq_true_eq,beq_iff_eq] at *
   rcases h with h | ⟨rfl,h⟩
   · rcases k with k | ⟨rfl,k⟩
     · exact .inl (UInt8.lt_trans h k)
     · exact .inl h
   · rcases k with k | ⟨rfl,k⟩
     · exact .inl k
     · exact .inr ⟨rfl,a5G h k⟩
theorem a1w:∀ i,i < 35 → ∀ m,m < 35 → i < m → ltB (s6.getD i []) (s6.getD m []) = true:=by decide +kernel
theorem J6:s6.length = 35:=by decide +kernel
theorem b1o {m:Nat} (h:m < 35):nth s6 m = some (s6.getD m []):=by
 rw [nth_getElem?,List.getD_eq_getElem?_getD,List.getElem?_eq_getElem (by rw [J6]; exact h)]; rfl
theorem c0f (a b:List UInt8):c74 T.rf a b = some (ltB a b):=e2O (by
 have h:∀ x:List UInt8,c75 T.rf x = some false:=fun x => e2P (by simp [r75])
 simp only [r74,h,bind_some,cond_false])
theorem c3K {i j:Nat} (h:i + j ≤ 100):IntKind.i64.wrap (b2p IntKind.u64 (IntKind.u64.wrap (IntKind.i64.wrap ((i:Int) + (j:Int)))) 1) = (((i + j) / 2:Nat):Int):=by
 have h0:IntKind.i64.wrap ((i:Int) + (j:Int)) = (i:Int) + (j:Int):=wr (by omega)
 have h1:IntKind.u64.wrap ((i:Int) + (j:Int)) = (i:Int) + (j:Int):=IntWalk.u64_in _ (by omega)
 rw [h0,h1]
 have h2:b2p IntKind.u64 ((i:Int) + (j:Int)) 1 = (((i + j) / 2:Nat):Int):=by
  unfold b2p
  have:(min (1:Int).toNat IntKind.u64.bits) = 1:=by decide
  rw [this]
  have:(2:Int) ^ 1 = 2:=by decide
  rw [this,Int.fdiv_eq_ediv_of_nonneg _ (by omega)]
  omega
 rw [h2,wr (by omega)]
theorem b4a (s:List UInt8):∀ (f i j:Nat),j - i ≤ f → i ≤ j → j ≤ 35 → (∀ k,k < i → ltB (s6.getD k []) s = true) → (∀ k,j ≤ k → k < 35 → ltB (s6.getD k []) s = false) →
  ∃ m:Nat,m ≤ 35 ∧ k71 T.rb s6 s (i:Nat) (j:Nat) = some (m:Int) ∧ (∀ k,k < m → ltB (s6.getD k []) s = true) ∧ (∀ k,m ≤ k → k < 35 → ltB (s6.getD k []) s = false):=by
 intro f
 induction f with
 | zero =>
   intro i j h1 h2 h3 h4 h5
   have:i = j:=by omega
   subst this
   exact ⟨i,h3,c4A (by simp only [b71,n8,cond_false]),h4,h5⟩
 | succ f ih =>
   intro i j h1 h2 h3 h4 h5
   by_cases hij:i < j
   case neg =>
    have:i = j:=by omega
    subst this
    exact ⟨i,h3,c4A (by simp only [b71,n8,cond_false]),h4,h5⟩
   have hm:(i + j) / 2 < 35:=by omega
   have step:b71 T.rf T.rb s6 s (i:Nat) (j:Nat) = bif ltB (s6.getD ((i + j) / 2) []) s then k71 T.rb s6 s (((i + j) / 2 + 1:Nat):Int) (j:Nat) else k71 T.rb s6 s (i:Nat) (((i + j) / 2:Nat):Int):=by
    have e1:decide (((i:Nat):Int) < ((j:Nat):Int)) = true:=dt (by omega)
    have e2:inb ((((i + j) / 2:Nat)):Int) s6.length = true:=F1 (by omega) (by rw [J6]; omega)
    simp only [b71,e1,cond_true,c3K (show i + j ≤ 100 by omega),e2,Int.toNat_natCast,b1o hm,bind_some,c0f,H5 (show (i + j) / 2 < 4611686018427387904 by omega)]
   cases hc:ltB (s6.getD ((i + j) / 2) []) s with
   | true =>
     obtain ⟨m,k1,k2,k3,k4⟩:=ih ((i + j) / 2 + 1) j (by omega) (by omega) h3 (fun k hk => by
      rcases Nat.lt_or_ge k ((i + j) / 2) with g | g
      · by_cases hki:k < i
        · exact h4 k hki
        · cases hck:ltB (s6.getD k []) s with
          | true => rfl
          | false =>
            exact absurd hck (by
             have hs:=a1w k (by omega) ((i + j) / 2) hm g
             intro hck
             exact absurd (a5G hs hc) (by rw [hck]; decide))
      · have:k = (i + j) / 2:=by omega
        subst this; exact hc) h5
     exact ⟨m,k1,c4A (by rw [step,hc,cond_true]; exact k2),k3,k4⟩
   | false =>
     obtain ⟨m,k1,k2,k3,k4⟩:=ih i ((i + j) / 2) (by omega) (by omega) (by omega) h4 (fun k hk hk2 => by
      rcases Nat.lt_or_ge ((i + j) / 2) k with g | g
      · cases hck:ltB (s6.getD k []) s with
        | false => rfl
        | true =>
          have hs:=a1w ((i + j) / 2) hm k hk2 g
          exact absurd (a5G hs hck) (by rw [hc]; decide)
      · have:k = (i + j) / 2:=by omega
        subst this; exact hc)
     exact ⟨m,k1,c4A (by rw [step,hc,cond_false]; exact k2),k3,k4⟩
theorem b7L (s:List UInt8):c72 T.rf s = some (a6W s):=e2N (by
 have hn:∀ x:List UInt8,c76 T.rf x = some false:=fun x => e2Q (by simp [r76])
 obtain ⟨m,h1,h2,h3,h4⟩:=b4a s 35 0 35 (by omega) (by omega) (by omega) (fun k hk => by omega) (fun k h1 h2 => by omega)
 have h2':k71 T.rb s6 s 0 (((s6.length:Nat):Int)) = some (m:Int):=by rw [J6]; exact h2
 have hb:∃ x,c73 T.rf s6 s = some (x,a6W s):=by
  have key:a6W s = decide (m < 35 ∧ s6.getD m [] = s):=by
   unfold a6W
   apply decide_eq_decide.2
   constructor
   · intro hs
     obtain ⟨k,hk⟩:=List.mem_iff_getElem?.1 hs
     have hk35:k < 35:=by have:=(List.getElem?_eq_some_iff.1 hk).1; rwa [J6] at this
     have hks:s6.getD k [] = s:=by rw [List.getD_eq_getElem?_getD,hk]; rfl
     have:m = k:=by
      rcases Nat.lt_trichotomy m k with g | g | g
      · have a1:=a1w m (by omega) k hk35 g
        rw [hks,h4 m (Nat.le_refl _) (by omega)] at a1; cases a1
      · exact g
      · have a1:=h3 k g
        rw [hks,b6q] at a1; cases a1
     subst this
     exact ⟨hk35,hks⟩
   · rintro ⟨g1,g2⟩
     rw [← g2,List.getD_eq_getElem?_getD,List.getElem?_eq_getElem (by rw [J6]; exact g1)]
     exact List.getElem_mem _
  by_cases hm:m < 35
  · have e1:decide (((m:Nat):Int) < ((s6.length:Nat):Int)) = true:=dt (by rw [J6]; omega)
    have e2:inb ((m:Nat):Int) s6.length = true:=F1 (by omega) (by rw [J6]; omega)
    refine ⟨m,d8z ?_⟩
    rw [key]
    simp only [r73,h2',bind_some,e1,cond_true,e2,Int.toNat_natCast,b1o hm,hn,cond_false]
    cases hc:s6.getD m [] == s with
    | true => rw [dt ⟨hm,eq_of_beq hc⟩]; rfl
    | false => rw [df (fun g => by rw [g.2,beq_self_eq_true] at hc; cases hc)]; rfl
  · have e1:decide (((m:Nat):Int) < ((s6.length:Nat):Int)) = false:=df (by rw [J6]; omega)
    refine ⟨m,d8z ?_⟩
    rw [key,df (fun g => hm g.1)]
    simp only [r73,h2',bind_some,e1,cond_false]
 obtain ⟨x,hx⟩:=hb
 simp only [r72,hx,bind_some])
def b1N (c:UInt8):Bool:=decide (97 ≤ c.toNat ∧ c.toNat ≤ 122) || decide (c.toNat = 95)
def a9P (c:UInt8):Bool:=decide (48 ≤ c.toNat ∧ c.toNat ≤ 57)
theorem b3G (c:UInt8):Y8 c = (b1N c || a9P c):=by
 unfold Y8 b1N a9P
 rw [Bool.eq_iff_iff]
 simp only [Bool.or_eq_true,Bool.and_eq_true,decide_eq_true_eq,Nat.ble_eq,Nat.beq_eq]
theorem c4v {c:UInt8} (h:Y8 c = true):b1N c = !(a9P c):=by
 rw [b3G] at h
 unfold b1N a9P at *
 rw [Bool.eq_iff_iff]
 simp only [Bool.or_eq_true,decide_eq_true_eq,Bool.not_eq_true',decide_eq_false_iff_not] at *
 omega
theorem b3V:∀ s:List UInt8,(a2B s == s) = s.all Y8
 | [] => rfl
 | c :: s => by
   cases h:Y8 c with
   | true =>
     simp only [a2B,h,cond_true,List.all_cons,Bool.true_and]
     rw [← b3V s]
     show (c == c && a2B s == s) = _
     rw [beq_self_eq_true,Bool.true_and]
   | false =>
     simp only [a2B,h,cond_false,List.all_cons,Bool.false_and]
     rfl
def m6 (s:List UInt8):Bool:=decide (s ≠ []) && (decide (s.length ≤ 40) && (s.all Y8 && (b1N (s.headD 0) && !(a6W s))))
theorem d2Q (s:List UInt8):c70 T.rf s = some (a2B s):=e2L rfl
theorem b4R (c:UInt8):c71 T.rf (((c.toNat:Nat):Int)) = some (a9P c):=e2M (by
 unfold a9P
 by_cases h1:48 ≤ c.toNat
 · by_cases h2:c.toNat ≤ 57
   · simp only [r71,dt (show ((c.toNat:Nat):Int) ≥ 48 by omega),dt (show ((c.toNat:Nat):Int) ≤ 57 by omega),dt (show 48 ≤ c.toNat ∧ c.toNat ≤ 57 from ⟨h1,h2⟩),cond_true]
   · simp only [r71,dt (show ((c.toNat:Nat):Int) ≥ 48 by omega),df (show ¬ ((c.toNat:Nat):Int) ≤ 57 by omega),df (show ¬ (48 ≤ c.toNat ∧ c.toNat ≤ 57) from fun h => h2 h.2),cond_true]
 · simp only [r71,df (show ¬ ((c.toNat:Nat):Int) ≥ 48 by omega),df (show ¬ (48 ≤ c.toNat ∧ c.toNat ≤ 57) from fun h => h1 h.1),cond_false])
theorem P9 (s:List UInt8):c69 T.rf s = some (m6 s):=e2K (by
 unfold m6
 cases s with
 | nil => rfl
 | cons c r =>
   have e1:((c :: r) == ([]:List UInt8)) = false:=rfl
   have e2:IntKind.i32.wrap (((c.toNat:Nat):Int)) = ((c.toNat:Nat):Int):=IntWalk.i32_in _ (by have:=c.toNat_lt; omega)
   have e3:inb 0 (c :: r).length = true:=F1 (by omega) (by simp only [List.length_cons]; omega)
   have e4:nth (c :: r) 0 = some c:=rfl
   simp only [r69,e1,Bool.not_false,cond_true,d2Q,bind_some,b3V,e3,e4,e2,b4R,b7L,dt (show (c :: r) ≠ [] by simp),Bool.true_and,List.headD_cons]
   by_cases hl:(c :: r).length ≤ 40
   case neg => rw [df (by omega),df hl]; rfl
   rw [dt (by omega),dt hl,cond_true,Bool.true_and]
   cases ha:(c :: r).all Y8 with
   | false => rfl
   | true =>
     have hc:Y8 c = true:=by simp only [List.all_cons,Bool.and_eq_true] at ha; exact ha.1
     rw [cond_true,c4v hc,Bool.true_and]
     cases a9P c <;> rfl)
def e2x:List (List UInt8 × Int):=[([],-1),([],10),([],10),([],10),([110,111,116],9),([45],9),([97,110,100],5),([111,114],4),([120,111,114],4),([61,62],2),([61],6),([60,62],6),([60],6),([60,61],6),([43],7),([45],7),([42],8),([100,105,118],8),([109,111,100],8),([45,62],1),([115,105,110,99,101],3),([112,114,101],9),([111,110,99,101],9),([104,105,115,116],9),([112,114,101,118],9),([119,105,116,104,105,110],9),([105,102],0),([],10)]
def d6J (op:Int):List UInt8 × Int:=if 0 ≤ op ∧ op < 28 then e2x.getD op.toNat ([],-1) else ([],-1)
inductive Shp (e:List Nd) (i:Nat):Tr → Prop
 | leaf {op a b c nn:Int} {nm:List UInt8} (h:op = 1 ∨ op = 2 ∨ op = 3) (hn:nth e i = some (op,a,b,c,nn,nm)) (hN:0 ≤ nn ∧ nn ≤ a2h op) (hs:nm ≠ [] ↔ op = 3):Shp e i (.mk (op,-1,-1,-1,nn,nm) [])
 | call0 {b c nn:Int} {nm:List UInt8} (hn:nth e i = some (27,-1,b,c,nn,nm)) (hN:nn = 0) (hs:nm ≠ []):Shp e i (.mk (27,-1,-1,-1,nn,nm) [])
 | call1 {b c nn:Int} {nm:List UInt8} {j:Nat} {t:Tr} (hn:nth e i = some (27,(j:Int),b,c,nn,nm)) (hN:nn = 0) (hs:nm ≠ []) (hj:j < i) (ht:Emb e j t) (hv:Valid t) (ho:t.op = 28):Shp e i (.mk (27,-1,-1,-1,nn,nm) [t])
 | arg1 {c nn:Int} {nm:List UInt8} {j:Nat} {t:Tr} (hn:nth e i = some (28,(j:Int),-1,c,nn,nm)) (hN:nn = 0) (hs:nm = []) (hj:j < i) (ht:Emb e j t) (hv:Valid t) (ho:t.op ≠ 28):Shp e i (.mk (28,-1,-1,-1,nn,nm) [t])
 | arg2 {c nn:Int} {nm:List UInt8} {j k:Nat} {t u:Tr} (hn:nth e i = some (28,(k:Int),(j:Int),c,nn,nm)) (hN:nn = 0) (hs:nm = []) (hj:j < i) (ht:Emb e j t) (hv:Valid t) (ho:t.op = 28) (hk:k < i) (hu:Emb e k u) (hvu:Valid u) (hou:u.op ≠ 28):Shp e i (.mk (28,-1,-1,-1,nn,nm) [t,u])
 | ite {nn:Int} {nm:List UInt8} {j k l:Nat} {t u v:Tr} (hn:nth e i = some (26,(j:Int),(k:Int),(l:Int),nn,nm)) (hN:nn = 0) (hs:nm = []) (hj:j < i) (ht:Emb e j t) (hv:Valid t) (ho:t.op ≠ 28) (hk:k < i) (hu:Emb e k u) (hvu:Valid u) (hou:u.op ≠ 28) (hl:l < i) (hw:Emb e l v) (hvw:Valid v) (how:v.op ≠ 28):Shp e i (.mk (26,-1,-1,-1,nn,nm) [t,u,v])
 | un {op b c nn:Int} {nm:List UInt8} {j:Nat} {t:Tr} (h:op = 4 ∨ op = 5 ∨ op = 21 ∨ op = 22 ∨ op = 23 ∨ op = 24 ∨ op = 25) (hn:nth e i = some (op,(j:Int),b,c,nn,nm)) (hN:0 ≤ nn ∧ nn ≤ a2h op) (hs:nm = []) (hj:j < i) (ht:Emb e j t) (hv:Valid t) (ho:t.op ≠ 28):Shp e i (.mk (op,-1,-1,-1,nn,nm) [t])
 | bin {op c nn:Int} {nm:List UInt8} {j k:Nat} {t u:Tr} (h:6 ≤ op ∧ op ≤ 20) (hn:nth e i = some (op,(j:Int),(k:Int),c,nn,nm)) (hN:nn = 0) (hs:nm = []) (hj:j < i) (ht:Emb e j t) (hv:Valid t) (ho:t.op ≠ 28) (hk:k < i) (hu:Emb e k u) (hvu:Valid u) (hou:u.op ≠ 28):Shp e i (.mk (op,-1,-1,-1,nn,nm) [t,u])
abbrev Str:Type:=List UInt8
def d0y (asked:Int) (x:Int × List Str):List Str:=if (d6J x.1).2 ≥ asked then x.2 else [40] :: (x.2 ++ [[41]])
def S6 (n:Nd):Bool:=(n.2.2.2.2.2 == ([]:Str)) || m6 n.2.2.2.2.2
theorem a9A (n:Nd):d1p T.rf n = some (!(S6 n)):=d6Z (by
 simp only [c4I,P9,bind_some,S6]
 cases (n.2.2.2.2.2 == ([]:Str)) <;> rfl)
theorem b3e (e:List Nd):∀ (suf pre:List Nd),e = pre ++ suf → e.length ≤ 1000000 →
  ∃ z,k88 T.rb e ((e.length:Nat):Int) (pre.length:Nat) = some z ∧ ((suf.all S6 = true ∧ z = .inr ()) ∨ (suf.all S6 = false ∧ ∃ j:Nat,z = .inl (j:Int)))
 | [],pre,h,hl => ⟨.inr (),d2j (by
    subst h
    simp only [b88,j9,cond_false]),.inl ⟨rfl,rfl⟩⟩
 | x :: suf,pre,h,hl => by
   obtain ⟨z,h1,h2⟩:=b3e e suf (pre ++ [x]) (by rw [h]; simp) hl
   have hpl:pre.length < 4611686018427387904:=by rw [h] at hl; simp at hl; omega
   cases hx:S6 x with
   | false =>
     refine ⟨.inl (pre.length:Nat),d2j ?_,.inr ⟨by simp [hx],_,rfl⟩⟩
     subst h
     simp only [b88,g8,a5,a6,cond_true,bind_some,a9A,hx,Bool.not_false]
   | true =>
     refine ⟨z,d2j ?_,by simpa [hx] using h2⟩
     subst h
     simp only [b88,g8,a5,a6,cond_true,cond_false,bind_some,a9A,hx,Bool.not_true,e9 pre x hpl]
     exact h1
theorem contains_eq {e:List Nd} (h:e.length ≤ 1000000):d1o T.rf e = some (!(e.all S6)):=d6Y (by
 obtain ⟨z,h1,h2⟩:=b3e e e [] rfl h
 simp only [List.length_nil] at h1
 rw [show ((0:Nat):Int) = (0:Int) from rfl] at h1
 rcases h2 with ⟨g,rfl⟩ | ⟨g,j,rfl⟩
 · have:c3e T.rf e = some (-1):=d0u (by simp only [c1K,h1,bind_some])
   simp only [c1J,this,bind_some,g]; rfl
 · have:c3e T.rf e = some (j:Int):=d0u (by simp only [c1K,h1,bind_some])
   simp only [c1J,this,bind_some,g,dt (show (j:Int) ≥ 0 by omega)]; rfl)
def D5 (e:List Nd):Bool:=s8 e && e.all S6
theorem a7l {e:List Nd} (h:e.length ≤ 1000000):c92 T.rf e = some (D5 e):=e3d (by
 simp only [r92,a7z h,contains_eq h,bind_some,D5]
 cases s8 e <;> cases e.all S6 <;> rfl)
def Small (l:List Str):Prop:=∀ s ∈ l,List.length s ≤ 40
theorem Small.part {a:Int} {x:Int × List Str} (h:Small x.2):Small (d0y a x):=by
 unfold d0y; split
 · exact h
 · intro s hs
   simp only [List.mem_cons,List.mem_append,List.not_mem_nil,or_false] at hs
   rcases hs with rfl | hs | rfl
   · simp
   · exact h s hs
   · simp
def H:List Str → Str
 | [] => []
 | [a] => 32 :: a
 | a :: b :: r => 32 :: (a ++ 32 :: 44 :: H (b :: r))
end Go.Proofs.YtelpjfihadaomaaGreatDoor.R
end
