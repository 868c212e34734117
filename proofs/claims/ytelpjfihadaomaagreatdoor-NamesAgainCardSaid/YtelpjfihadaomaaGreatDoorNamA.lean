import Derived.Test.YtelpjfihadaomaaGreatDoorNam0
open Option (bind_some)
namespace Go.Proofs.YtelpjfihadaomaaGreatDoor.R
open Go Go.Bm Go.Proofs
set_option linter.unusedVariables false
set_option linter.unusedSimpArgs false
set_option maxRecDepth 4000
abbrev Mb:Type:=List (Str × Bool)
abbrev Mu:Type:=List (Str × Unt)
def SM (l:List Str):Mb:=l.map fun s => (s,true)
def UM (l:List Unt):Mu:=l.map fun u => (u.2.1,u)
def fU (l:List Unt) (n:Str):Option Unt:=l.find? fun u => u.2.1 == n
def zU:Unt:=(false,([]:Str),[],([]:Str),0,[],[],[])
def d1W (m:Mb) (k:Str):Bool:=@j4 Str Bool (CT.eqK .str) false m k
def sB (m:Mb) (k:Str) (v:Bool):Mb:=@o4 Str Bool (CT.eqK .str) m k v
def dB (m:Mb) (k:Str):Mb:=@C4 Str Bool (CT.eqK .str) m k
def hM (m:Mu) (k:Str):Bool:=@D0 Str Unt (CT.eqK .str) m k
def gM (m:Mu) (k:Str):Unt:=@j4 Str Unt (CT.eqK .str) zU m k
def pM (m:Mu) (k:Str) (v:Unt):Mu:=@o4 Str Unt (CT.eqK .str) m k v
theorem a0A (m:Mb) (k:Str):@j4 (CT.str).denote Bool (CT.str).eqK false m k = d1W m k:=rfl
theorem X8 (m:Mb) (k:Str):@j4 Str Bool (CT.str).eqK false m k = d1W m k:=rfl
theorem a7n (m:Mb) (k:Str) (v:Bool):@o4 (CT.str).denote Bool (CT.str).eqK m k v = sB m k v:=rfl
theorem a4Y (m:Mb) (k:Str) (v:Bool):@o4 Str Bool (CT.str).eqK m k v = sB m k v:=rfl
theorem b1B (m:Mb) (k:Str):@C4 (CT.str).denote Bool (CT.str).eqK m k = dB m k:=rfl
theorem a7U (m:Mb) (k:Str):@C4 Str Bool (CT.str).eqK m k = dB m k:=rfl
theorem a2T (m:Mu) (k:Str):@D0 (CT.str).denote Unt (CT.str).eqK m k = hM m k:=rfl
theorem a0B (m:Mu) (k:Str):@D0 Str Unt (CT.str).eqK m k = hM m k:=rfl
theorem a2S (m:Mu) (k:Str):@j4 (CT.str).denote Unt (CT.str).eqK (false,([]:Str),[],([]:Str),0,[],[],[]) m k = gM m k:=rfl
theorem a0z (m:Mu) (k:Str):@j4 Str Unt (CT.str).eqK (false,([]:Str),[],([]:Str),0,[],[],[]) m k = gM m k:=rfl
theorem a9r (l:List Str) (x:Str):d1W (SM l) x = decide (x ∈ l):=c2w l x
theorem b5y {l:List Str} {x:Str} (h:x ∉ l):sB (SM l) x true = SM (l ++ [x]):=b4b l x h
theorem d2R (l:List Str):(SM l).length = l.length:=by simp [SM]
theorem c2x:∀ (l:List Str) (x:Str),dB (SM l) x = SM (l.erase x)
 | [],x => rfl
 | y :: l,x => by
   have ih:=c2x l x
   by_cases e:x = y
   · subst e
     have:CT.eqK .str x x = true:=beq_self_eq_true x
     rw [List.erase_cons_head]
     simp only [dB,SM,List.map_cons,C4]
     erw [this]; rfl
   · have:CT.eqK .str x y = false:=beq_eq_false_iff_ne.2 e
     have h2:(y :: l).erase x = y :: l.erase x:=by rw [List.erase_cons,if_neg (by simpa using fun h => e h.symm)]
     simp only [dB,SM] at ih
     rw [h2]
     simp only [dB,SM,List.map_cons,C4]
     erw [this]
     rw [cond_false,ih]
theorem a9G:∀ (l:List Unt) (n:Str),@assoc Str Unt (CT.eqK .str) (UM l) n = fU l n
 | [],n => rfl
 | u :: l,n => by
   have ih:=a9G l n
   simp only [UM,fU] at ih ⊢
   simp only [List.map_cons,assoc,List.find?_cons,ih]
   have e:CT.eqK .str n u.2.1 = (u.2.1 == n):=by
    show (n == u.2.1) = (u.2.1 == n)
    exact Bool.beq_comm
   erw [e]
   cases (u.2.1 == n) <;> rfl
theorem b2v (l:List Unt) (n:Str):hM (UM l) n = (fU l n).isSome:=by
 unfold hM D0; rw [a9G]; cases fU l n <;> rfl
theorem b5N (l:List Unt) (n:Str):gM (UM l) n = (fU l n).getD zU:=by
 unfold gM j4; rw [a9G]; cases fU l n <;> rfl
theorem c2J:∀ (l:List Unt) (u:Unt),fU l u.2.1 = none → pM (UM l) u.2.1 u = UM (l ++ [u])
 | [],u,_ => rfl
 | y :: l,u,h => by
   have h1:(y.2.1 == u.2.1) = false:=by
    cases hb:(y.2.1 == u.2.1) with
    | false => rfl
    | true => simp [fU,List.find?_cons,hb] at h
   have h2:fU l u.2.1 = none:=by simpa [fU,List.find?_cons,h1] using h
   have e:CT.eqK .str u.2.1 y.2.1 = false:=(Bool.beq_comm (a:=u.2.1) (b:=y.2.1)).trans h1
   have ih:=c2J l u h2
   simp only [pM,UM] at ih ⊢
   simp only [List.map_cons,List.cons_append,o4]
   erw [e]
   rw [cond_false,ih]
@[reducible] def Sp {B A:Type} (E:B → Prop) (K:A → Prop):B ⊕ A → Prop
 | .inl c => E c
 | .inr a => K a
def known (S G:List Str):List Nd → Int
 | [] => 0
 | n :: r => if n.1 = 3 ∧ n.2.2.2.2.2 ∉ S ∧ n.2.2.2.2.2 ∉ G then 8 else if n.1 = 27 then 14 else known S G r
def gn:List Itm → List Str
 | [] => []
 | x :: r => if x.1 = 3 then x.2.1 :: gn r else gn r
theorem a5B:∀ (l m:List Itm),gn (l ++ m) = gn l ++ gn m
 | [],m => rfl
 | x :: l,m => by
   simp only [List.cons_append,gn,a5B l m]
   split <;> rfl
theorem b4N:∀ (l:List Itm),(gn l).length ≤ l.length
 | [] => Nat.le_refl _
 | x :: l => by have:=b4N l; simp only [gn]; split <;> simp <;> omega
def H6 (S:List Str) (out:List Itm) (x:Itm):Int ⊕ List Itm :=
 if x.1 = 3 ∧ (x.2.1 ∈ S ∨ x.2.1 ∈ gn out) then .inl 9 else if out.length < 200 then .inr (out ++ [x]) else .inl 7
theorem V0 (b:Bool) (c:Int):C5 T.rf b c = some (if b = true then .inr () else .inl c):=d7r (by
 simp only [c4Q]; cases b <;> rfl)
theorem a1i (c:Int):C5 T.rf true c = some (.inr ()):=V0 true c
theorem a0m (c:Int):C5 T.rf false c = some (.inl c):=V0 false c
theorem a6p (mu:Mu) (S G:List Str) (its:List Itm):∀ (suf pre:List Nd),(pre ++ suf).length ≤ 1000000 →
  b7M T.rb mu (SM S) (SM G) its (pre ++ suf) ((pre ++ suf).length:Nat) (pre.length:Nat) = some (if known S G suf = 0 then .inr (mu,SM S,SM G,its) else .inl (mu,SM S,SM G,its,known S G suf))
 | [],pre,h => c9r (by simp only [b8W,j9,cond_false]; rfl)
 | x :: suf,pre,h => c9r (by
   have hp:pre.length < 4611686018427387904:=by simp at h; omega
   have ih:=a6p mu S G its suf (pre ++ [x]) (by simpa using h)
   simp only [List.append_assoc,List.singleton_append] at ih
   simp only [b8W,g8,a5,a6,cond_true,bind_some,a0A,X8,a9r,e9 pre x hp,ih,a1i]
   by_cases h3:x.1 = 3
   · rw [nbt h3]
     have h27:(x.1 != 27) = true:=nbf (by omega)
     simp only [cond_false,h27,a1i,bind_some]
     by_cases hS:x.2.2.2.2.2 ∈ S
     · rw [dt hS]
       simp only [cond_true,known,if_neg (show ¬ (x.1 = 3 ∧ x.2.2.2.2.2 ∉ S ∧ x.2.2.2.2.2 ∉ G) from fun g => g.2.1 hS),if_neg (show ¬ x.1 = 27 by omega)]
     · rw [df hS]
       simp only [cond_false]
       by_cases hG:x.2.2.2.2.2 ∈ G
       · rw [dt hG]
         simp only [a1i,bind_some,known,if_neg (show ¬ (x.1 = 3 ∧ x.2.2.2.2.2 ∉ S ∧ x.2.2.2.2.2 ∉ G) from fun g => g.2.2 hG),if_neg (show ¬ x.1 = 27 by omega)]
       · rw [df hG]
         simp only [a0m,bind_some,known,if_pos (show x.1 = 3 ∧ x.2.2.2.2.2 ∉ S ∧ x.2.2.2.2.2 ∉ G from ⟨h3,hS,hG⟩)]
         rfl
   · rw [nbf h3]
     simp only [cond_true,known,if_neg (show ¬ (x.1 = 3 ∧ x.2.2.2.2.2 ∉ S ∧ x.2.2.2.2.2 ∉ G) from fun g => h3 g.1)]
     by_cases h27:x.1 = 27
     · rw [nbt h27]
       simp only [a0m,bind_some,if_pos h27]
       rfl
     · rw [nbf h27]
       simp only [a1i,bind_some,if_neg h27])
theorem a5C (mu:Mu) (S G:List Str) (its:List Itm) {e:List Nd} (h:e.length ≤ 1000000) :
  b9V T.rf mu (SM S) (SM G) its e = some (if known S G e = 0 then .inr (mu,SM S,SM G,its) else .inl (mu,SM S,SM G,its,known S G e)):=d7s (by
 have:=a6p mu S G its e [] (by simpa using h)
 simp only [List.nil_append,List.length_nil] at this
 rw [show ((0:Nat):Int) = (0:Int) from rfl] at this
 simp only [c4R,this,bind_some]
 by_cases hk:known S G e = 0
 · simp only [if_pos hk]
 · simp only [if_neg hk])
theorem add_eq (mu:Mu) (S:List Str) (its:List Itm) (hl:its.length ≤ 1000000) (x:Itm) :
  b2M T.rf mu (SM S) (SM (gn its)) its x = some (match H6 S its x with
   | .inl c => .inl (mu,SM S,SM (gn its),its,c)
   | .inr l => .inr (mu,SM S,SM (gn l),l)):=d7B (by
 have hb:Nat.ble (its.length + 1) j8 = true:=j5 (by omega)
 have hd:decide (((its.length:Nat):Int) < 200) = decide (its.length < 200):=by
  by_cases g:its.length < 200
  · rw [dt g,dt (by omega)]
  · rw [df g,df (by omega)]
 simp only [c2d,a0A,X8,a7n,a4Y,a9r,hb,hd,Bool.and_true,cond_true]
 by_cases h3:x.1 = 3
 · rw [bt h3]
   simp only [cond_true]
   have hg:gn (its ++ [x]) = gn its ++ [x.2.1]:=by rw [a5B]; simp [gn,h3]
   by_cases hS:x.2.1 ∈ S
   · rw [dt hS]
     have:H6 S its x = .inl 9:=if_pos ⟨h3,.inl hS⟩
     rw [this]
     simp only [Bool.not_true,cond_false,a0m,bind_some]
   · rw [df hS]
     simp only [Bool.not_false,cond_true]
     by_cases hG:x.2.1 ∈ gn its
     · rw [dt hG]
       have:H6 S its x = .inl 9:=if_pos ⟨h3,.inr hG⟩
       rw [this]
       simp only [Bool.not_true,a0m,bind_some]
     · rw [df hG]
       have hn:¬ (x.1 = 3 ∧ (x.2.1 ∈ S ∨ x.2.1 ∈ gn its)):=fun g => by rcases g.2 with g | g; exact hS g; exact hG g
       simp only [Bool.not_false,a1i,bind_some]
       by_cases h2:its.length < 200
       · have:H6 S its x = .inr (its ++ [x]):=by rw [H6,if_neg hn,if_pos h2]
         rw [this,dt h2]
         simp only [a1i,bind_some,b5y hG,hg]
       · have:H6 S its x = .inl 7:=by rw [H6,if_neg hn,if_neg h2]
         rw [this,df h2]
         simp only [a0m,bind_some]
 · rw [bf h3]
   simp only [cond_false]
   have hg:gn (its ++ [x]) = gn its:=by rw [a5B]; simp [gn,h3]
   have hn:¬ (x.1 = 3 ∧ (x.2.1 ∈ S ∨ x.2.1 ∈ gn its)):=fun g => h3 g.1
   by_cases h2:its.length < 200
   · have:H6 S its x = .inr (its ++ [x]):=by rw [H6,if_neg hn,if_pos h2]
     rw [this,dt h2]
     simp only [a1i,bind_some,hg]
   · have:H6 S its x = .inl 7:=by rw [H6,if_neg hn,if_neg h2]
     rw [this,df h2]
     simp only [a0m,bind_some])
end Go.Proofs.YtelpjfihadaomaaGreatDoor.R
