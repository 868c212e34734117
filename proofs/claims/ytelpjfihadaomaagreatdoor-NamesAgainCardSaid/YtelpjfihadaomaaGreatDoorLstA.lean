import Derived.Test.YtelpjfihadaomaaGreatDoorShwX
open Option (bind_some)
open List (length_nil)
namespace Go.Proofs.YtelpjfihadaomaaGreatDoor.R
open Go Go.Bm Go.Proofs
set_option linter.unusedVariables false
set_option linter.unusedSimpArgs false
set_option maxRecDepth 4000
abbrev Pm:Type:=Str × Int
abbrev Eqn:Type:=Str × List Nd
abbrev Itm:Type:=Int × Str × Int × List Nd × List Nd × List (List Nd)
abbrev Unt:Type:=Bool × Str × List Pm × Str × Int × List Pm × List Eqn × List Itm
abbrev Prg:Type:=List Unt × Str × Str
structure SzI (n m:Nat) (x:Itm):Prop where
 e:x.2.2.2.1.length ≤ m
 f:x.2.2.2.2.1.length ≤ m
 c:x.2.2.2.2.2.length ≤ n
 a:∀ y ∈ x.2.2.2.2.2,y.length ≤ m
structure SzU (n m:Nat) (u:Unt):Prop where
 i:u.2.2.1.length ≤ n
 v:u.2.2.2.2.2.1.length ≤ n
 q:u.2.2.2.2.2.2.1.length ≤ n
 x:u.2.2.2.2.2.2.2.length ≤ n
 qe:∀ q ∈ u.2.2.2.2.2.2.1,q.2.length ≤ m
 xe:∀ x ∈ u.2.2.2.2.2.2.2,SzI n m x
structure SzP (n m:Nat) (p:Prg):Prop where
 c:p.1.length ≤ n
 u:∀ u ∈ p.1,SzU n m u
theorem SzI.mono {n m n' m':Nat} {x:Itm} (h:SzI n m x) (h1:n ≤ n') (h2:m ≤ m'):SzI n' m' x :=
 ⟨Nat.le_trans h.e h2,Nat.le_trans h.f h2,Nat.le_trans h.c h1,fun y hy => Nat.le_trans (h.a y hy) h2⟩
theorem SzU.mono {n m n' m':Nat} {u:Unt} (h:SzU n m u) (h1:n ≤ n') (h2:m ≤ m'):SzU n' m' u :=
 ⟨Nat.le_trans h.i h1,Nat.le_trans h.v h1,Nat.le_trans h.q h1,Nat.le_trans h.x h1,fun y hy => Nat.le_trans (h.qe y hy) h2,fun x hx => (h.xe x hx).mono h1 h2⟩
theorem SzP.mono {n m n' m':Nat} {p:Prg} (h:SzP n m p) (h1:n ≤ n') (h2:m ≤ m'):SzP n' m' p :=
 ⟨Nat.le_trans h.c h1,fun x hx => (h.u x hx).mono h1 h2⟩
theorem Z6 {n:Nat} (h:n ≤ 30):decide (((n:Nat):Int) > 30) = false:=df (by omega)
theorem b0I {n:Nat} (h:¬ n ≤ 30):decide (((n:Nat):Int) > 30) = true:=dt (by omega)
theorem a4r {n:Nat} (h:n ≤ 200):decide (((n:Nat):Int) > 200) = false:=df (by omega)
theorem b1H {n:Nat} (h:¬ n ≤ 200):decide (((n:Nat):Int) > 200) = true:=dt (by omega)
theorem c2B (kd:Int) (nm:Str) (ty:Int) (e f:List Nd):∀ (suf pre:List (List Nd)),(pre ++ suf).length ≤ 30 →
  ∃ z,k3 T.rb (kd,nm,ty,e,f,pre ++ suf) (pre.length:Nat) = some z ∧ ((∀ y ∈ suf,y.length ≤ 200) ∧ (∃ u,z = .inr u) ∨ ∃ u,z = .inl (u,false))
 | [],pre,h => ⟨.inr (kd,nm,ty,e,f,pre ++ []),ob3 (by simp only [b3,j9,cond_false]),.inl ⟨by simp,_,rfl⟩⟩
 | x :: suf,pre,h => by
   have hp:pre.length < 4611686018427387904:=by simp at h; omega
   obtain ⟨z,h1,h2⟩:=c2B kd nm ty e f suf (pre ++ [x]) (by simpa using h)
   simp only [List.append_assoc,List.singleton_append] at h1
   by_cases hx:x.length ≤ 200
   · refine ⟨z,ob3 (by
      simp only [b3,g8,a5,a6,cond_true,bind_some,a4r hx,cond_false,e9 pre x hp]
      exact h1),?_⟩
     rcases h2 with ⟨g,u,rfl⟩ | g
     · exact .inl ⟨fun y hy => by rcases List.mem_cons.1 hy with rfl | hy; exact hx; exact g y hy,u,rfl⟩
     · exact .inr g
   · exact ⟨_,ob3 (by
      simp only [b3,g8,a5,a6,cond_true,bind_some,b1H hx]
      rfl),.inr ⟨_,rfl⟩⟩
theorem c2A (k:Bool) (nm:Str) (i:List Pm) (o:Str) (t:Int) (v:List Pm) (q:List Eqn):∀ (suf pre:List Itm),(pre ++ suf).length ≤ 30 →
  ∃ z,k2 T.rb (k,nm,i,o,t,v,q,pre ++ suf) (pre.length:Nat) = some z ∧ ((∀ y ∈ suf,SzI 30 200 y) ∧ (∃ u,z = .inr u) ∨ ∃ u,z = .inl (u,false))
 | [],pre,h => ⟨.inr (k,nm,i,o,t,v,q,pre ++ []),ob2 (by simp only [b2,j9,cond_false]),.inl ⟨by simp,_,rfl⟩⟩
 | x :: suf,pre,h => by
   have hp:pre.length < 4611686018427387904:=by simp at h; omega
   obtain ⟨z,h1,h2⟩:=c2A k nm i o t v q suf (pre ++ [x]) (by simpa using h)
   simp only [List.append_assoc,List.singleton_append] at h1
   by_cases he:x.2.2.2.1.length ≤ 200
   case neg => exact ⟨_,ob2 (by
    simp only [b2,g8,a5,a6,cond_true,bind_some,b1H he]
    rfl),.inr ⟨_,rfl⟩⟩
   by_cases hf:x.2.2.2.2.1.length ≤ 200
   case neg => exact ⟨_,ob2 (by
    simp only [b2,g8,a5,a6,cond_true,bind_some,a4r he,b1H hf,cond_false]
    rfl),.inr ⟨_,rfl⟩⟩
   by_cases ha:x.2.2.2.2.2.length ≤ 30
   case neg => exact ⟨_,ob2 (by
    simp only [b2,g8,a5,a6,cond_true,bind_some,a4r he,a4r hf,b0I ha,cond_false]
    rfl),.inr ⟨_,rfl⟩⟩
   obtain ⟨z6,g1,g2⟩:=c2B x.1 x.2.1 x.2.2.1 x.2.2.2.1 x.2.2.2.2.1 x.2.2.2.2.2 [] (by simpa using ha)
   simp only [List.nil_append,length_nil] at g1
   rw [show ((0:Nat):Int) = (0:Int) from rfl] at g1
   rcases g2 with ⟨g2,u,rfl⟩ | ⟨u,rfl⟩
   · refine ⟨z,ob2 (by
      simp only [b2,g8,a5,a6,cond_true,bind_some,a4r he,a4r hf,Z6 ha,cond_false,g1,e9 pre x hp]
      exact h1),?_⟩
     rcases h2 with ⟨g,u,rfl⟩ | g
     · exact .inl ⟨fun y hy => by rcases List.mem_cons.1 hy with rfl | hy; exact ⟨he,hf,ha,g2⟩; exact g y hy,u,rfl⟩
     · exact .inr g
   · exact ⟨_,ob2 (by
      simp only [b2,g8,a5,a6,cond_true,bind_some,a4r he,a4r hf,Z6 ha,cond_false,g1]
      rfl),.inr ⟨_,rfl⟩⟩
theorem c2z (k:Bool) (nm:Str) (i:List Pm) (o:Str) (t:Int) (v:List Pm) (its:List Itm):∀ (suf pre:List Eqn),(pre ++ suf).length ≤ 30 →
  ∃ z,k1 T.rb (k,nm,i,o,t,v,pre ++ suf,its) (pre.length:Nat) = some z ∧ ((∀ y ∈ suf,y.2.length ≤ 200) ∧ z = .inr (k,nm,i,o,t,v,pre ++ suf,its) ∨ ∃ u,z = .inl (u,false))
 | [],pre,h => ⟨.inr (k,nm,i,o,t,v,pre ++ [],its),ob1 (by simp only [b1,j9,cond_false]),.inl ⟨by simp,rfl⟩⟩
 | x :: suf,pre,h => by
   have hp:pre.length < 4611686018427387904:=by simp at h; omega
   obtain ⟨z,h1,h2⟩:=c2z k nm i o t v its suf (pre ++ [x]) (by simpa using h)
   simp only [List.append_assoc,List.singleton_append] at h1 h2
   by_cases hx:x.2.length ≤ 200
   · refine ⟨z,ob1 (by
      simp only [b1,g8,a5,a6,cond_true,bind_some,a4r hx,cond_false,e9 pre x hp]
      exact h1),?_⟩
     rcases h2 with ⟨g,rfl⟩ | g
     · exact .inl ⟨fun y hy => by rcases List.mem_cons.1 hy with rfl | hy; exact hx; exact g y hy,rfl⟩
     · exact .inr g
   · exact ⟨_,ob1 (by
      simp only [b1,g8,a5,a6,cond_true,bind_some,b1H hx]
      rfl),.inr ⟨_,rfl⟩⟩
theorem c2y (mn bk:Str):∀ (suf pre:List Unt),(pre ++ suf).length ≤ 30 →
  ∃ z,k0 T.rb (pre ++ suf,mn,bk) (pre.length:Nat) = some z ∧ ((∀ y ∈ suf,SzU 30 200 y) ∧ (∃ u,z = .inr u) ∨ ∃ u,z = .inl (u,false))
 | [],pre,h => ⟨.inr (pre ++ [],mn,bk),ob0 (by simp only [b0,j9,cond_false]),.inl ⟨by simp,_,rfl⟩⟩
 | x :: suf,pre,h => by
   have hp:pre.length < 4611686018427387904:=by simp at h; omega
   obtain ⟨z,h1,h2⟩:=c2y mn bk suf (pre ++ [x]) (by simpa using h)
   simp only [List.append_assoc,List.singleton_append] at h1
   by_cases c1:x.2.2.1.length ≤ 30
   case neg => exact ⟨_,ob0 (by
    simp only [b0,g8,a5,a6,cond_true,bind_some,b0I c1]
    rfl),.inr ⟨_,rfl⟩⟩
   by_cases c2:x.2.2.2.2.2.1.length ≤ 30
   case neg => exact ⟨_,ob0 (by
    simp only [b0,g8,a5,a6,cond_true,bind_some,Z6 c1,b0I c2,cond_false]
    rfl),.inr ⟨_,rfl⟩⟩
   by_cases c3:x.2.2.2.2.2.2.1.length ≤ 30
   case neg => exact ⟨_,ob0 (by
    simp only [b0,g8,a5,a6,cond_true,bind_some,Z6 c1,Z6 c2,b0I c3,cond_false]
    rfl),.inr ⟨_,rfl⟩⟩
   by_cases c4:x.2.2.2.2.2.2.2.length ≤ 30
   case neg => exact ⟨_,ob0 (by
    simp only [b0,g8,a5,a6,cond_true,bind_some,Z6 c1,Z6 c2,Z6 c3,b0I c4,cond_false]
    rfl),.inr ⟨_,rfl⟩⟩
   obtain ⟨z2,g1,g2⟩:=c2z x.1 x.2.1 x.2.2.1 x.2.2.2.1 x.2.2.2.2.1 x.2.2.2.2.2.1 x.2.2.2.2.2.2.2 x.2.2.2.2.2.2.1 [] (by simpa using c3)
   obtain ⟨z4,k1,k2⟩:=c2A x.1 x.2.1 x.2.2.1 x.2.2.2.1 x.2.2.2.2.1 x.2.2.2.2.2.1 x.2.2.2.2.2.2.1 x.2.2.2.2.2.2.2 [] (by simpa using c4)
   simp only [List.nil_append,length_nil] at g1 g2 k1
   rw [show ((0:Nat):Int) = (0:Int) from rfl] at g1 k1
   rcases g2 with ⟨g2,rfl⟩ | ⟨u,rfl⟩
   · rcases k2 with ⟨k2,u,rfl⟩ | ⟨u,rfl⟩
     · refine ⟨z,ob0 (by
        simp only [b0,g8,a5,a6,cond_true,bind_some,Z6 c1,Z6 c2,Z6 c3,Z6 c4,cond_false,g1,k1,e9 pre x hp]
        exact h1),?_⟩
       rcases h2 with ⟨g,u,rfl⟩ | g
       · exact .inl ⟨fun y hy => by rcases List.mem_cons.1 hy with rfl | hy; exact ⟨c1,c2,c3,c4,g2,k2⟩; exact g y hy,u,rfl⟩
       · exact .inr g
     · exact ⟨_,ob0 (by
        simp only [b0,g8,a5,a6,cond_true,bind_some,Z6 c1,Z6 c2,Z6 c3,Z6 c4,cond_false,g1,k1]
        rfl),.inr ⟨_,rfl⟩⟩
   · exact ⟨_,ob0 (by
      simp only [b0,g8,a5,a6,cond_true,bind_some,Z6 c1,Z6 c2,Z6 c3,Z6 c4,cond_false,g1]
      rfl),.inr ⟨_,rfl⟩⟩
theorem a1R (p:Prg):∃ s,c1 T.rf p = some s ∧ (s = true → SzP 30 200 p):=by
 by_cases hl:p.1.length ≤ 30
 · obtain ⟨z,h1,h2⟩:=c2y p.2.1 p.2.2 p.1 [] (by simpa using hl)
   simp only [List.nil_append,length_nil] at h1
   rw [show ((0:Nat):Int) = (0:Int) from rfl] at h1
   rcases h2 with ⟨g,u,rfl⟩ | ⟨u,rfl⟩
   · exact ⟨true,or1 (by simp only [r1,Z6 hl,cond_false,h1,bind_some]),fun _ => ⟨hl,g⟩⟩
   · exact ⟨false,or1 (by simp only [r1,Z6 hl,cond_false,h1,bind_some]),fun h => by cases h⟩
 · exact ⟨false,or1 (by simp only [r1,b0I hl,cond_true]),fun h => by cases h⟩
def a2p (p:Pm):Bool:=m6 p.1 && (p.2 == 1 || p.2 == 2)
def a1E (l:List Pm):Bool:=decide (l.length ≤ 200) && l.all a2p
def a3k (q:Eqn):Bool:=m6 q.1 && D5 q.2
def M3 (x:Itm):Bool :=
 if x.1 = 1 ∨ x.1 = 2 then (x.2.1 == ([]:Str)) && (x.2.2.1 == 0 && (D5 x.2.2.2.1 && (decide (x.2.2.2.2.1.length = 0) && decide (x.2.2.2.2.2.length = 0)))) else
 if x.1 = 3 then m6 x.2.1 && ((x.2.2.1 == 1 || x.2.2.1 == 2) && (D5 x.2.2.2.1 && (decide (x.2.2.2.2.1.length = 0) && decide (x.2.2.2.2.2.length = 0)))) else
 if x.1 = 4 then m6 x.2.1 && (x.2.2.1 == 0 && (D5 x.2.2.2.1 && (D5 x.2.2.2.2.1 && decide (x.2.2.2.2.2.length = 0)))) else
 if x.1 = 5 then m6 x.2.1 && (x.2.2.1 == 0 && (decide (x.2.2.2.1.length = 0) && (decide (x.2.2.2.2.1.length = 0) && (decide (x.2.2.2.2.2.length ≤ 200) && x.2.2.2.2.2.all D5)))) else false
def Z7 (u:Unt):Bool :=
 m6 u.2.1 && (a1E u.2.2.1 && (a1E u.2.2.2.2.2.1 && ((decide (u.2.2.2.2.2.2.1.length ≤ 200) && u.2.2.2.2.2.2.1.all a3k) && ((decide (u.2.2.2.2.2.2.2.length ≤ 200) && u.2.2.2.2.2.2.2.all M3) &&
 (bif u.1 then (u.2.2.2.1 == ([]:Str) && u.2.2.2.2.1 == 0) && (decide (u.2.2.2.2.2.1.length = 0) && decide (u.2.2.2.2.2.2.1.length = 0)) else a2p (u.2.2.2.1,u.2.2.2.2.1))))))
def S3 (p:Prg):Bool:=m6 p.2.1 && ((p.2.2 == ([]:Str) || m6 p.2.2) && (decide (p.1.length ≤ 200) && p.1.all Z7))
theorem a1B {n:Nat}:decide (((n:Nat):Int) ≤ 200) = decide (n ≤ 200):=by
 by_cases h:n ≤ 200
 · rw [dt h,dt (by omega)]
 · rw [df h,df (by omega)]
theorem c0Q {n:Nat}:(((n:Nat):Int) == 0) = decide (n = 0):=by
 by_cases h:n = 0
 · rw [dt h,bt (by omega)]
 · rw [df h,bf (by omega)]
theorem c0R {n m:Nat} (h:n ≤ 1000000) (h2:m ≤ 1000000):(IntKind.i64.wrap (((n:Nat):Int) + ((m:Nat):Int)) == 0) = (decide (n = 0) && decide (m = 0)):=by
 rw [wr (by omega)]
 by_cases h:n = 0
 · by_cases g:m = 0
   · rw [dt h,dt g,bt (by omega)]; rfl
   · rw [dt h,df g,bf (by omega)]; rfl
 · rw [df h,bf (by omega)]; rfl
theorem a8i (p:Pm):c86 T.rf p = some (a2p p):=e2Y (by
 simp only [r86,P9,bind_some,a2p]
 cases m6 p.1 <;> cases (p.2 == 1) <;> rfl)
theorem d6C {l:List Pm} {p:Pm → Bool} (hp:∀ x ∈ l,c86 T.rf x = some (p x)) (hl:l.length ≤ 200):∀ (suf pre:List Pm),l = pre ++ suf →
  ∃ z,k73 T.rb l ((l.length:Nat):Int) (pre.length:Nat) = some z ∧ ((suf.all p = true ∧ z = .inr ()) ∨ (suf.all p = false ∧ ∃ j:Nat,z = .inl (j:Int)))
 | [],pre,h => ⟨.inr (),d2g (by
    subst h
    simp only [b73,j9,cond_false]),.inl ⟨rfl,rfl⟩⟩
 | x :: suf,pre,h => by
   obtain ⟨z,h1,h2⟩:=d6C hp hl suf (pre ++ [x]) (by rw [h]; simp)
   have hpl:pre.length < 4611686018427387904:=by rw [h] at hl; simp at hl; omega
   have hx:=hp x (by rw [h]; simp)
   have hx':c85 T.rf x = some (!(p x)):=e2X (by simp only [r85,hx,bind_some])
   cases hb:p x with
   | false =>
     refine ⟨.inl (pre.length:Nat),d2g ?_,.inr ⟨by simp [hb],_,rfl⟩⟩
     subst h
     simp only [b73,g8,a5,a6,cond_true,bind_some,hx',hb,Bool.not_false]
   | true =>
     refine ⟨z,d2g ?_,by simpa [hb] using h2⟩
     subst h
     simp only [b73,g8,a5,a6,cond_true,cond_false,bind_some,hx',hb,Bool.not_true,e9 pre x hpl]
     exact h1
theorem c2V {l:List Pm} {p:Pm → Bool} (hp:∀ x ∈ l,c86 T.rf x = some (p x)):c82 T.rf l = some (decide (l.length ≤ 200) && l.all p):=e2V (by
 by_cases hl:l.length ≤ 200
 · obtain ⟨z,h1,h2⟩:=d6C hp hl l [] rfl
   simp only [length_nil] at h1
   rw [show ((0:Nat):Int) = (0:Int) from rfl] at h1
   have hc:c83 T.rf l = some (!(l.all p)):=e2W (by
    rcases h2 with ⟨g,rfl⟩ | ⟨g,j,rfl⟩
    · have:c84 T.rf l = some (-1):=d8B (by simp only [r84,h1,bind_some])
      simp only [r83,this,bind_some,g]; rfl
    · have:c84 T.rf l = some (j:Int):=d8B (by simp only [r84,h1,bind_some])
      simp only [r83,this,bind_some,g,dt (show (j:Int) ≥ 0 by omega)]; rfl)
   simp only [r82,a1B,dt hl,cond_true,hc,bind_some,Bool.not_not,Bool.true_and]
 · simp only [r82,a1B,df hl,cond_false,Bool.false_and])
theorem d6D {l:List Eqn} {p:Eqn → Bool} (hp:∀ x ∈ l,c91 T.rf x = some (p x)) (hl:l.length ≤ 200):∀ (suf pre:List Eqn),l = pre ++ suf →
  ∃ z,k74 T.rb l ((l.length:Nat):Int) (pre.length:Nat) = some z ∧ ((suf.all p = true ∧ z = .inr ()) ∨ (suf.all p = false ∧ ∃ j:Nat,z = .inl (j:Int)))
 | [],pre,h => ⟨.inr (),d2h (by
    subst h
    simp only [b74,j9,cond_false]),.inl ⟨rfl,rfl⟩⟩
 | x :: suf,pre,h => by
   obtain ⟨z,h1,h2⟩:=d6D hp hl suf (pre ++ [x]) (by rw [h]; simp)
   have hpl:pre.length < 4611686018427387904:=by rw [h] at hl; simp at hl; omega
   have hx:=hp x (by rw [h]; simp)
   have hx':c90 T.rf x = some (!(p x)):=e3b (by simp only [r90,hx,bind_some])
   cases hb:p x with
   | false =>
     refine ⟨.inl (pre.length:Nat),d2h ?_,.inr ⟨by simp [hb],_,rfl⟩⟩
     subst h
     simp only [b74,g8,a5,a6,cond_true,bind_some,hx',hb,Bool.not_false]
   | true =>
     refine ⟨z,d2h ?_,by simpa [hb] using h2⟩
     subst h
     simp only [b74,g8,a5,a6,cond_true,cond_false,bind_some,hx',hb,Bool.not_true,e9 pre x hpl]
     exact h1
theorem c2W {l:List Eqn} {p:Eqn → Bool} (hp:∀ x ∈ l,c91 T.rf x = some (p x)):c87 T.rf l = some (decide (l.length ≤ 200) && l.all p):=e2Z (by
 by_cases hl:l.length ≤ 200
 · obtain ⟨z,h1,h2⟩:=d6D hp hl l [] rfl
   simp only [length_nil] at h1
   rw [show ((0:Nat):Int) = (0:Int) from rfl] at h1
   have hc:c88 T.rf l = some (!(l.all p)):=e3a (by
    rcases h2 with ⟨g,rfl⟩ | ⟨g,j,rfl⟩
    · have:c89 T.rf l = some (-1):=d8C (by simp only [r89,h1,bind_some])
      simp only [r88,this,bind_some,g]; rfl
    · have:c89 T.rf l = some (j:Int):=d8C (by simp only [r89,h1,bind_some])
      simp only [r88,this,bind_some,g,dt (show (j:Int) ≥ 0 by omega)]; rfl)
   simp only [r87,a1B,dt hl,cond_true,hc,bind_some,Bool.not_not,Bool.true_and]
 · simp only [r87,a1B,df hl,cond_false,Bool.false_and])
theorem a9S {q:Eqn} (h:q.2.length ≤ 1000000):c91 T.rf q = some (a3k q):=e3c (by
 simp only [r91,P9,bind_some,a7l h,a3k]
 cases m6 q.1 <;> rfl)
theorem d6A {l:List (List Nd)} {p:(List Nd) → Bool} (hp:∀ x ∈ l,c92 T.rf x = some (p x)) (hl:l.length ≤ 200):∀ (suf pre:List (List Nd)),l = pre ++ suf →
  ∃ z,k90 T.rb l ((l.length:Nat):Int) (pre.length:Nat) = some z ∧ ((suf.all p = true ∧ z = .inr ()) ∨ (suf.all p = false ∧ ∃ j:Nat,z = .inl (j:Int)))
 | [],pre,h => ⟨.inr (),d2l (by
    subst h
    simp only [b90,j9,cond_false]),.inl ⟨rfl,rfl⟩⟩
 | x :: suf,pre,h => by
   obtain ⟨z,h1,h2⟩:=d6A hp hl suf (pre ++ [x]) (by rw [h]; simp)
   have hpl:pre.length < 4611686018427387904:=by rw [h] at hl; simp at hl; omega
   have hx:=hp x (by rw [h]; simp)
   have hx':d1u T.rf x = some (!(p x)):=d7g (by simp only [c4L,hx,bind_some])
   cases hb:p x with
   | false =>
     refine ⟨.inl (pre.length:Nat),d2l ?_,.inr ⟨by simp [hb],_,rfl⟩⟩
     subst h
     simp only [b90,g8,a5,a6,cond_true,bind_some,hx',hb,Bool.not_false]
   | true =>
     refine ⟨z,d2l ?_,by simpa [hb] using h2⟩
     subst h
     simp only [b90,g8,a5,a6,cond_true,cond_false,bind_some,hx',hb,Bool.not_true,e9 pre x hpl]
     exact h1
theorem c2T {l:List (List Nd)} {p:(List Nd) → Bool} (hp:∀ x ∈ l,c92 T.rf x = some (p x)):b7r T.rf l = some (decide (l.length ≤ 200) && l.all p):=d7e (by
 by_cases hl:l.length ≤ 200
 · obtain ⟨z,h1,h2⟩:=d6A hp hl l [] rfl
   simp only [length_nil] at h1
   rw [show ((0:Nat):Int) = (0:Int) from rfl] at h1
   have hc:d1t T.rf l = some (!(l.all p)):=d7f (by
    rcases h2 with ⟨g,rfl⟩ | ⟨g,j,rfl⟩
    · have:c3g T.rf l = some (-1):=d0w (by simp only [c1Q,h1,bind_some])
      simp only [c1P,this,bind_some,g]; rfl
    · have:c3g T.rf l = some (j:Int):=d0w (by simp only [c1Q,h1,bind_some])
      simp only [c1P,this,bind_some,g,dt (show (j:Int) ≥ 0 by omega)]; rfl)
   simp only [c1O,a1B,dt hl,cond_true,hc,bind_some,Bool.not_not,Bool.true_and]
 · simp only [c1O,a1B,df hl,cond_false,Bool.false_and])
theorem b7J {n m:Nat} {x:Itm} (h:SzI n m x) (hn:n ≤ 1000000) (hm:m ≤ 1000000):b9S T.rf x = some (M3 x):=d7d (by
 obtain ⟨kd,nm,ty,e,f,gs⟩:=x
 have he:e.length ≤ 1000000:=Nat.le_trans h.e hm
 have hf:f.length ≤ 1000000:=Nat.le_trans h.f hm
 have ha:gs.length ≤ 1000000:=Nat.le_trans h.c hn
 have hA:=c2T (l:=gs) (p:=D5) (fun y hy => a7l (Nat.le_trans (h.a y hy) hm))
 simp only [c4K,P9,bind_some,a7l he,a7l hf,hA,c0R hf ha,c0R he hf,c0Q,M3]
 by_cases k1:kd = 1
 · subst k1; cases (nm == ([]:Str)) <;> cases (ty == 0) <;> cases (ty == 1) <;> cases D5 e <;> rfl
 by_cases k2:kd = 2
 · subst k2; cases (nm == ([]:Str)) <;> cases (ty == 0) <;> cases (ty == 1) <;> cases D5 e <;> rfl
 by_cases k3:kd = 3
 · subst k3; cases m6 nm <;> cases (ty == 1) <;> cases (ty == 2) <;> cases D5 e <;> rfl
 by_cases k4:kd = 4
 · subst k4; cases m6 nm <;> cases (ty == 0) <;> cases (ty == 1) <;> cases D5 e <;> cases D5 f <;> rfl
 by_cases k5:kd = 5
 · subst k5; cases m6 nm <;> cases (ty == 0) <;> cases (ty == 1) <;> cases decide (e.length = 0) <;> cases decide (f.length = 0) <;> rfl
 simp only [bf k1,bf k2,bf k3,bf k4,bf k5,cond_false,if_neg k3,if_neg k4,if_neg k5,if_neg (show ¬ (kd = 1 ∨ kd = 2) by omega)]
 cases (ty == 1) <;> rfl)
theorem d6B {l:List Itm} {p:Itm → Bool} (hp:∀ x ∈ l,b9S T.rf x = some (p x)) (hl:l.length ≤ 200):∀ (suf pre:List Itm),l = pre ++ suf →
  ∃ z,k89 T.rb l ((l.length:Nat):Int) (pre.length:Nat) = some z ∧ ((suf.all p = true ∧ z = .inr ()) ∨ (suf.all p = false ∧ ∃ j:Nat,z = .inl (j:Int)))
 | [],pre,h => ⟨.inr (),d2k (by
    subst h
    simp only [b89,j9,cond_false]),.inl ⟨rfl,rfl⟩⟩
 | x :: suf,pre,h => by
   obtain ⟨z,h1,h2⟩:=d6B hp hl suf (pre ++ [x]) (by rw [h]; simp)
   have hpl:pre.length < 4611686018427387904:=by rw [h] at hl; simp at hl; omega
   have hx:=hp x (by rw [h]; simp)
   have hx':d1s T.rf x = some (!(p x)):=d7c (by simp only [c4J,hx,bind_some])
   cases hb:p x with
   | false =>
     refine ⟨.inl (pre.length:Nat),d2k ?_,.inr ⟨by simp [hb],_,rfl⟩⟩
     subst h
     simp only [b89,g8,a5,a6,cond_true,bind_some,hx',hb,Bool.not_false]
   | true =>
     refine ⟨z,d2k ?_,by simpa [hb] using h2⟩
     subst h
     simp only [b89,g8,a5,a6,cond_true,cond_false,bind_some,hx',hb,Bool.not_true,e9 pre x hpl]
     exact h1
theorem c2U {l:List Itm} {p:Itm → Bool} (hp:∀ x ∈ l,b9S T.rf x = some (p x)):d1q T.rf l = some (decide (l.length ≤ 200) && l.all p):=d7a (by
 by_cases hl:l.length ≤ 200
 · obtain ⟨z,h1,h2⟩:=d6B hp hl l [] rfl
   simp only [length_nil] at h1
   rw [show ((0:Nat):Int) = (0:Int) from rfl] at h1
   have hc:d1r T.rf l = some (!(l.all p)):=d7b (by
    rcases h2 with ⟨g,rfl⟩ | ⟨g,j,rfl⟩
    · have:c3f T.rf l = some (-1):=d0v (by simp only [c1N,h1,bind_some])
      simp only [c1M,this,bind_some,g]; rfl
    · have:c3f T.rf l = some (j:Int):=d0v (by simp only [c1N,h1,bind_some])
      simp only [c1M,this,bind_some,g,dt (show (j:Int) ≥ 0 by omega)]; rfl)
   simp only [c1L,a1B,dt hl,cond_true,hc,bind_some,Bool.not_not,Bool.true_and]
 · simp only [c1L,a1B,df hl,cond_false,Bool.false_and])
theorem b7K {n m:Nat} {u:Unt} (h:SzU n m u) (hn:n ≤ 1000000) (hm:m ≤ 1000000):c81 T.rf u = some (Z7 u):=e2U (by
 obtain ⟨k,nm,i,o,t,v,q,xs⟩:=u
 have hP:∀ l:List Pm,c82 T.rf l = some (a1E l):=fun l => c2V (fun x _ => a8i x)
 have hQ:=c2W (l:=q) (p:=a3k) (fun y hy => a9S (Nat.le_trans (h.qe y hy) hm))
 have hI:=c2U (l:=xs) (p:=M3) (fun y hy => b7J (h.xe y hy) hn hm)
 simp only [r81,P9,bind_some,hP,hQ,hI,a8i,c0R (Nat.le_trans h.v hn) (Nat.le_trans h.q hn),Z7]
 cases m6 nm <;> cases a1E i <;> cases a1E v <;> cases (decide (q.length ≤ 200) && q.all a3k) <;> cases (decide (xs.length ≤ 200) && xs.all M3) <;> cases k <;> first | rfl | (cases (o == ([]:Str)) <;> cases (t == 0) <;> rfl))
theorem d6E {l:List Unt} {p:Unt → Bool} (hp:∀ x ∈ l,c81 T.rf x = some (p x)) (hl:l.length ≤ 200):∀ (suf pre:List Unt),l = pre ++ suf →
  ∃ z,k72 T.rb l ((l.length:Nat):Int) (pre.length:Nat) = some z ∧ ((suf.all p = true ∧ z = .inr ()) ∨ (suf.all p = false ∧ ∃ j:Nat,z = .inl (j:Int)))
 | [],pre,h => ⟨.inr (),d2f (by
    subst h
    simp only [b72,j9,cond_false]),.inl ⟨rfl,rfl⟩⟩
 | x :: suf,pre,h => by
   obtain ⟨z,h1,h2⟩:=d6E hp hl suf (pre ++ [x]) (by rw [h]; simp)
   have hpl:pre.length < 4611686018427387904:=by rw [h] at hl; simp at hl; omega
   have hx:=hp x (by rw [h]; simp)
   have hx':c80 T.rf x = some (!(p x)):=e2T (by simp only [r80,hx,bind_some])
   cases hb:p x with
   | false =>
     refine ⟨.inl (pre.length:Nat),d2f ?_,.inr ⟨by simp [hb],_,rfl⟩⟩
     subst h
     simp only [b72,g8,a5,a6,cond_true,bind_some,hx',hb,Bool.not_false]
   | true =>
     refine ⟨z,d2f ?_,by simpa [hb] using h2⟩
     subst h
     simp only [b72,g8,a5,a6,cond_true,cond_false,bind_some,hx',hb,Bool.not_true,e9 pre x hpl]
     exact h1
theorem c2X {l:List Unt} {p:Unt → Bool} (hp:∀ x ∈ l,c81 T.rf x = some (p x)):c77 T.rf l = some (decide (l.length ≤ 200) && l.all p):=e2R (by
 by_cases hl:l.length ≤ 200
 · obtain ⟨z,h1,h2⟩:=d6E hp hl l [] rfl
   simp only [length_nil] at h1
   rw [show ((0:Nat):Int) = (0:Int) from rfl] at h1
   have hc:c78 T.rf l = some (!(l.all p)):=e2S (by
    rcases h2 with ⟨g,rfl⟩ | ⟨g,j,rfl⟩
    · have:c79 T.rf l = some (-1):=d8A (by simp only [r79,h1,bind_some])
      simp only [r78,this,bind_some,g]; rfl
    · have:c79 T.rf l = some (j:Int):=d8A (by simp only [r79,h1,bind_some])
      simp only [r78,this,bind_some,g,dt (show (j:Int) ≥ 0 by omega)]; rfl)
   simp only [r77,a1B,dt hl,cond_true,hc,bind_some,Bool.not_not,Bool.true_and]
 · simp only [r77,a1B,df hl,cond_false,Bool.false_and])
theorem b8N {n m:Nat} {p:Prg} (h:SzP n m p) (hn:n ≤ 1000000) (hm:m ≤ 1000000):c68 T.rf p = some (S3 p):=e2J (by
 have hU:=c2X (l:=p.1) (p:=Z7) (fun y hy => b7K (h.u y hy) hn hm)
 simp only [r68,P9,bind_some,hU,S3]
 cases m6 p.2.1 <;> cases (p.2.2 == ([]:Str)) <;> cases m6 p.2.2 <;> rfl)
end Go.Proofs.YtelpjfihadaomaaGreatDoor.R
