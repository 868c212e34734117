import GoSem.Core.Code
import GoSem.Core.Program
import GoSem.Core.View
import Derived.Calls
import Derived.Laws.World
import Derived.Laws.AppendOwn
import Derived.Laws.Append
import Derived.Laws.Cells
import Derived.Laws.MakeOwn
section
namespace Go.Bm
set_option linter.unusedVariables false
inductive CT where
 | unit | int (k:IntKind) | bool | str | list (e:CT) | prod (a b:CT) | sum (a b:CT)
 | any (p:Bool)
 deriving DecidableEq,Repr
@[reducible] def CT.denote:CT → Type
 | .unit => Unit
 | .int _ => Int
 | .bool => Bool
 | .str => List UInt8
 | .list e => List e.denote
 | .prod a b => a.denote × b.denote
 | .sum a b => a.denote ⊕ b.denote
 | .any _ => Unit
def CT.zero:(t:CT) → t.denote
 | .unit => ()
 | .int _ => (0:Int)
 | .bool => false
 | .str => ([]:List UInt8)
 | .list e => ([]:List e.denote)
 | .prod a b => (a.zero,b.zero)
 | .sum a b => .inl a.zero
 | .any _ => ()
def CT.size:CT → Nat
 | .unit => 0
 | .prod _ b => 1 + b.size
 | _ => 1
inductive Leaf where
 | undef
 | int (k:IntKind) (x:Int)
 | bool (b:Bool)
 | str (s:List UInt8)
 | list (e:CT) (l:List e.denote)
 | clist (e:CT) (l:List e.denote)
 | nils
 | ptr (id off:Nat)
 | eptr (id i off:Nat)
 | vptr (e:CT) (x:e.denote) (off:Nat)
 | sl (id:Nat) (r:Option (Nat × Nat))
 | fn (f:Nat) (first cap:List (Option Nat))
 | ifp (t id off:Nat)
 | ifi (t:Nat) (k:IntKind) (x:Int)
 | mp (id:Nat)
 | nilp
 | nilf
 | nili
 | nilm
 | anyb
inductive SVal where
 | one (l:Leaf)
 | agg (cs:List Leaf)
 | skip
 | tup (ps:List (List Leaf × Bool))
inductive SObj where
 | box (cs:List Leaf)
 | cells (cs:List Leaf)
 | arr (e:CT) (l:List e.denote)
 | frz (e:CT) (l:List e.denote)
 | map (k v:CT) (agg:Bool) (l:List (k.denote × v.denote))
 | rows (e:CT) (l:List (List e.denote)) (g:Option Nat)
 | mrows (k e:CT) (l:List (k.denote × List e.denote)) (g:Option Nat)
 | zip (e:CT) (pre:List e.denote) (cs:List Leaf) (post:List e.denote)
 | dead
structure St where
 env:List (Nat × SVal)
 heap:List (Nat × SObj)
 next:Nat
 hold:List Nat:=[]
def look {α:Type}:List (Nat × α) → Nat → Option α
 | [],_ => none
 | (k,v) :: r,n => bif Nat.beq k n then some v else look r n
def has:List Nat → Nat → Bool
 | [],_ => false
 | k :: r,n => bif Nat.beq k n then true else has r n
def St.held (s:St) (id:Nat):Bool:=has s.hold id
def St.set (s:St) (dst:Option Nat) (v:SVal):St :=
 match dst with
 | some d => { s with env:=(d,v) :: s.env }
 | none => s
def St.put (s:St) (id:Nat) (o:SObj):St:={ s with heap:=(id,o) :: s.heap }
def St.new (s:St) (o:SObj):St:={ s with heap:=(s.next,o) :: s.heap,next:=s.next + 1 }
inductive TD where
 | leaf (z:Leaf)
 | struct (fs:List (Nat × Nat × Bool)) (zs:List Leaf)
 | slice (e:CT) (n:Nat)
 | arr (e:CT) (n:Nat) (agg:Bool) (zs:List Leaf)
 | map (k v:CT) (agg:Bool)
 deriving Inhabited
instance:Inhabited Leaf:=⟨.undef⟩
def Leaf.def:Leaf → Bool
 | .undef => false
 | _ => true
def sub {α:Type} (l:List α) (r:Option (Nat × Nat)):List α :=
 match r with
 | none => l
 | some (off,len) => (l.drop off).take len
def pack1 (t:CT) (v:Leaf) (s:St):Option (t.denote × St) :=
 match t,v with
 | .int k,.int k' x => if k = k' then some (x,s) else none
 | .bool,.bool b => some (b,s)
 | .str,.str x => some (x,s)
 | .list e,.list e' l => if h:e' = e then some ((h ▸ l:List e.denote),s) else none
 | .list e,.clist e' l => if h:e' = e then some ((h ▸ l:List e.denote),s) else none
 | .list e,.nils => some (([]:List e.denote),s)
 | .list e,.sl id r => match look s.heap id with
   | some (.arr e' l) => if h:e' = e then (bif s.held id then none else some (sub (h ▸ l:List e.denote) r,s.put id (.frz e' l))) else none
   | some (.frz e' l) => if h:e' = e then some (sub (h ▸ l:List e.denote) r,s) else none
   | _ => none
 | .any _,v => bif v.def then some ((),s) else none
 | _,_ => none
def packL:(t:CT) → List Leaf → St → Option (t.denote × St)
 | .prod a b,v :: vs,s => match pack1 a v s with
   | some (x,s') => match packL b vs s' with
     | some (y,s'') => some ((x,y),s'')
     | none => none
   | none => none
 | .unit,[],s => some ((),s)
 | .int k,[v],s => pack1 (.int k) v s
 | .bool,[v],s => pack1 .bool v s
 | .str,[v],s => pack1 .str v s
 | .list e,[v],s => pack1 (.list e) v s
 | .any p,[v],s => pack1 (.any p) v s
 | _,_,_ => none
def unpack1:(t:CT) → t.denote → Leaf
 | .int k,x => .int k x
 | .bool,b => .bool b
 | .str,s => .str s
 | .list e,l => .list e l
 | _,_ => .undef
def unpackL:(t:CT) → t.denote → List Leaf
 | .prod a b,x => unpack1 a x.1 :: unpackL b x.2
 | .unit,_ => []
 | .int k,x => [.int k x]
 | .bool,b => [.bool b]
 | .str,s => [.str s]
 | .list e,l => [.list e l]
 | .sum _ _,_ => []
 | .any _,_ => [.undef]
def packRows (e:CT):List (List Leaf) → St → Option (List e.denote × St)
 | [],s => some ([],s)
 | r :: rs,s => match packL e r s with
   | some (x,s') => match packRows e rs s' with
     | some (y,s'') => some (x :: y,s'')
     | none => none
   | none => none
def nth {α:Type}:List α → Nat → Option α
 | [],_ => none
 | x :: _,0 => some x
 | _ :: r,n + 1 => nth r n
def prods:List CT → CT
 | [] => .unit
 | [a] => a
 | a :: b :: r => .prod a (prods (b :: r))
structure Dyn where
 t:CT
 x:t.denote
def toD:(ts:List CT) → List Dyn → Option (prods ts).denote
 | [],[] => some ()
 | [a],[d] => if h:d.t = a then some (h ▸ d.x) else none
 | a :: b :: r,d :: ds => if h:d.t = a then match toD (b :: r) ds with
    | some y => some (h ▸ d.x,y)
    | none => none
   else none
 | _,_ => none
def fromD:(ts:List CT) → (prods ts).denote → List Dyn
 | [],_ => []
 | [a],x => [⟨a,x⟩]
 | a :: b :: r,x => ⟨a,x.1⟩ :: fromD (b :: r) x.2
inductive LT where
 | pl (t:CT)
 | cl (e:CT)
 | ptr (k off:Nat)
 | eptr (k off:Nat)
 | sl (k:Nat)
 | slp (k off n:Nat)
 | nils
 | fn (f:Nat) (first cap:List (Option Nat))
 | ifp (t k off:Nat)
 | ifi (t:Nat) (j:IntKind)
 | mp (k:Nat)
 | nilp
 | nilf
 | nili
 | nilm
 | undef
inductive ObT where
 | box (ls:List LT)
 | cells (ls:List LT)
 | arr (e:CT)
 | map (k v:CT) (agg:Bool)
 | rows (e:CT)
 | mrows (k e:CT)
 | zip (e:CT) (ls:List LT)
 | gone
inductive SlT where
 | one (l:LT)
 | agg (ls:List LT)
structure Tm where
 objs:List (Bool × ObT)
 slots:List SlT
def LT.plain:LT → Option CT
 | .pl t => some t
 | _ => none
def LT.cts:LT → List CT
 | .pl t => [t]
 | .ifi _ j => [.int j]
 | .cl e => [.list e]
 | .eptr _ _ => [.int .i64]
 | _ => []
def ltCts:List LT → List CT
 | [] => []
 | l :: r => l.cts ++ ltCts r
def ObT.cts:ObT → List CT
 | .box ls => ltCts ls
 | .cells ls => ltCts ls
 | .arr e => [.list e]
 | .map k v _ => [.list (.prod k v)]
 | .rows e => [.list (.list e)]
 | .mrows k e => [.list (.prod k (.list e))]
 | .zip e ls => .list e :: (ltCts ls ++ [.list e])
 | .gone => []
def obCts:List (Bool × ObT) → List CT
 | [] => []
 | o :: r => o.2.cts ++ obCts r
def SlT.cts:SlT → List CT
 | .one l => l.cts
 | .agg ls => ltCts ls
def slCts:List SlT → List CT
 | [] => []
 | l :: r => l.cts ++ slCts r
def Tm.cts (T:Tm):List CT:=obCts T.objs ++ slCts T.slots
def Tm.ct (T:Tm):CT:=prods T.cts
def instL:LT → List Dyn → List Leaf × List Dyn
 | .pl _,d :: r => (unpackL d.t d.x,r)
 | .ifi t _,⟨.int j,x⟩ :: r => ([.ifi t j x],r)
 | .cl _,⟨.list e,l⟩ :: r => ([.clist e l],r)
 | .ptr k off,r => ([.ptr k off],r)
 | .eptr k off,⟨.int _,x⟩ :: r => ([.eptr k x.toNat off],r)
 | .sl k,r => ([.sl k none],r)
 | .slp k off n,r => ([.sl k (some (off,n))],r)
 | .nils,r => ([.nils],r)
 | .fn f a b,r => ([.fn f a b],r)
 | .ifp t k off,r => ([.ifp t k off],r)
 | .mp k,r => ([.mp k],r)
 | .nilp,r => ([.nilp],r)
 | .nilf,r => ([.nilf],r)
 | .nili,r => ([.nili],r)
 | .nilm,r => ([.nilm],r)
 | _,r => ([.undef],r)
def instLs:List LT → List Dyn → List Leaf × List Dyn
 | [],ds => ([],ds)
 | l :: r,ds => ((instL l ds).1 ++ (instLs r (instL l ds).2).1,(instLs r (instL l ds).2).2)
def zipUp (e:CT) (l:List e.denote):List Leaf × List Dyn → SObj × List Dyn
 | (cs,⟨.list e',m⟩ :: r) => if h:e' = e then (.zip e l cs (h ▸ m:List e.denote),r) else (.dead,r)
 | (_,r) => (.dead,r)
def instOb:ObT → List Dyn → SObj × List Dyn
 | .box ls,ds => (.box (instLs ls ds).1,(instLs ls ds).2)
 | .cells ls,ds => (.cells (instLs ls ds).1,(instLs ls ds).2)
 | .arr _,⟨.list e,l⟩ :: r => (.arr e l,r)
 | .map _ _ a,⟨.list (.prod k v),l⟩ :: r => (.map k v a l,r)
 | .rows _,⟨.list (.list e),l⟩ :: r => (.rows e l none,r)
 | .mrows _ _,⟨.list (.prod k (.list e)),l⟩ :: r => (.mrows k e l none,r)
 | .zip _ ls,⟨.list e,l⟩ :: r => zipUp e l (instLs ls r)
 | _,r => (.dead,r)
def instObs:Nat → List (Bool × ObT) → List Dyn → List (Nat × SObj) × List Dyn
 | _,[],ds => ([],ds)
 | k,o :: r,ds => ((k,(instOb o.2 ds).1) :: (instObs (k + 1) r (instOb o.2 ds).2).1,(instObs (k + 1) r (instOb o.2 ds).2).2)
def headL:List Leaf → Leaf
 | [x] => x
 | _ => .undef
def instSl:SlT → List Dyn → SVal × List Dyn
 | .one l,ds => (.one (headL (instL l ds).1),(instL l ds).2)
 | .agg ls,ds => (.agg (instLs ls ds).1,(instLs ls ds).2)
def instSls:List SlT → List Dyn → List SVal × List Dyn
 | [],ds => ([],ds)
 | l :: r,ds => ((instSl l ds).1 :: (instSls r (instSl l ds).2).1,(instSls r (instSl l ds).2).2)
def Tm.heap (T:Tm) (ds:List Dyn):List (Nat × SObj):=(instObs 0 T.objs ds).1
def Tm.vals (T:Tm) (ds:List Dyn):List SVal:=(instSls T.slots (instObs 0 T.objs ds).2).1
abbrev Rho:=List (Option Nat)
def Rho.at (ρ:Rho) (k:Nat):Option Nat:=match nth ρ k with
 | some x => x
 | none => none
def Rho.bind (ρ:Rho) (k id:Nat):Rho:=match ρ,k with
 | [],0 => [some id]
 | [],k + 1 => none :: Rho.bind [] k id
 | x :: r,0 => match x with
   | some y => some y :: r
   | none => some id :: r
 | x :: r,k + 1 => x :: Rho.bind r k id
def ext1 (hp:List (Nat × SObj)) (t:CT) (v:Leaf):Option t.denote :=
 match t,v with
 | .int k,.int k' x => if k = k' then some x else none
 | .bool,.bool b => some b
 | .str,.str x => some x
 | .list e,.list e' l => if h:e' = e then some (h ▸ l:List e.denote) else none
 | .list e,.clist e' l => if h:e' = e then some (h ▸ l:List e.denote) else none
 | .list e,.nils => some ([]:List e.denote)
 | .list e,.sl id r => match look hp id with
   | some (.frz e' l) => if h:e' = e then some (sub (h ▸ l:List e.denote) r) else none
   | _ => none
 | .any _,v => bif v.def then some () else none
 | _,_ => none
def extP (hp:List (Nat × SObj)):(t:CT) → List Leaf → Option t.denote
 | .prod a b,v :: vs => match ext1 hp a v with
   | some x => match extP hp b vs with
     | some y => some (x,y)
     | none => none
   | none => none
 | .unit,[] => some ()
 | .int k,[v] => ext1 hp (.int k) v
 | .bool,[v] => ext1 hp .bool v
 | .str,[v] => ext1 hp .str v
 | .list e,[v] => ext1 hp (.list e) v
 | .any p,[v] => ext1 hp (.any p) v
 | _,_ => none
def eqId (ρ:Rho) (k id:Nat):Bool:=match ρ.at k with
 | some j => Nat.beq j id
 | none => false
def eqIds (ρ:Rho):List (Option Nat) → List (Option Nat) → Bool
 | [],[] => true
 | none :: r,none :: s => eqIds ρ r s
 | some k :: r,some id :: s => eqId ρ k id && eqIds ρ r s
 | _,_ => false
def extL (ρ:Rho):LT → Leaf → Option (List Dyn)
 | .ptr k off,.ptr id off' => bif eqId ρ k id && Nat.beq off off' then some [] else none
 | .eptr k off,.eptr id i off' => bif eqId ρ k id && Nat.beq off off' then some [⟨.int .i64,(i:Int)⟩] else none
 | .sl k,.sl id none => bif eqId ρ k id then some [] else none
 | .slp k off n,.sl id (some r) => bif eqId ρ k id && (Nat.beq r.1 off && Nat.beq r.2 n) then some [] else none
 | .nils,.nils => some []
 | .fn f a b,.fn f' a' b' => bif Nat.beq f f' && (eqIds ρ a a' && eqIds ρ b b') then some [] else none
 | .ifp t k off,.ifp t' id off' => bif Nat.beq t t' && (eqId ρ k id && Nat.beq off off') then some [] else none
 | .ifi t j,.ifi t' j' x => if j' = j then (bif Nat.beq t t' then some [⟨.int j',x⟩] else none) else none
 | .cl e,.clist e' l => if e' = e then some [⟨.list e',l⟩] else none
 | .mp k,.mp id => bif eqId ρ k id then some [] else none
 | .nilp,.nilp => some []
 | .nilf,.nilf => some []
 | .nili,.nili => some []
 | .nilm,.nilm => some []
 | .undef,_ => some []
 | _,_ => none
def extLs (ρ:Rho) (hp:List (Nat × SObj)):List LT → List Leaf → Option (List Dyn)
 | [],[] => some []
 | [],_ :: _ => none
 | l :: r,ls => match l.plain with
   | some t => match extP hp t (ls.take t.size),extLs ρ hp r (ls.drop t.size) with
     | some x,some ds => some (⟨t,x⟩ :: ds)
     | _,_ => none
   | none => match ls with
     | [] => none
     | v :: vs => match extL ρ l v,extLs ρ hp r vs with
       | some d,some ds => some (d ++ ds)
       | _,_ => none
def extOb (ρ:Rho) (hp:List (Nat × SObj)) (k:Nat) (o:ObT):Option (List Dyn) :=
 match o with
 | .gone => some []
 | o => match ρ.at k with
   | some id => match o,look hp id with
     | .box ls,some (.box cs) => extLs ρ hp ls cs
     | .cells ls,some (.cells cs) => extLs ρ hp ls cs
     | .arr e,some (.arr e' l) => if e' = e then some [⟨.list e',l⟩] else none
     | .map k v a,some (.map k' v' a' l) => if k' = k ∧ v' = v ∧ a' = a then some [⟨.list (.prod k' v'),l⟩] else none
     | .rows e,some (.rows e' l none) => if e' = e then some [⟨.list (.list e'),l⟩] else none
     | .mrows k e,some (.mrows k' e' l none) => if k' = k ∧ e' = e then some [⟨.list (.prod k' (.list e')),l⟩] else none
     | .zip e ls,some (.zip e' pre cs post) => if e' = e then (match extLs ρ hp ls cs with
       | some ds => some (⟨.list e',pre⟩ :: (ds ++ [⟨.list e',post⟩]))
       | none => none) else none
     | _,_ => none
   | none => none
def extObs (ρ:Rho) (hp:List (Nat × SObj)):Nat → List (Bool × ObT) → Option (List Dyn)
 | _,[] => some []
 | k,o :: r => match extOb ρ hp k o.2,extObs ρ hp (k + 1) r with
   | some d,some ds => some (d ++ ds)
   | _,_ => none
def extSl (ρ:Rho) (hp:List (Nat × SObj)):SlT → SVal → Option (List Dyn)
 | .one l,.one v => extLs ρ hp [l] [v]
 | .agg ls,.agg vs => extLs ρ hp ls vs
 | .one .undef,_ => some []
 | _,_ => none
def extSls (ρ:Rho) (hp:List (Nat × SObj)):List SlT → List SVal → Option (List Dyn)
 | [],[] => some []
 | l :: r,v :: vs => match extSl ρ hp l v,extSls ρ hp r vs with
   | some d,some ds => some (d ++ ds)
   | _,_ => none
 | _,_ => none
structure PS where
 s:St
 ρ:Rho
 g:List Nat:=[]
 n:Nat:=0
 f:List Nat:=[]
def bindIds (ρ:Rho):List (Option Nat) → List (Option Nat) → Rho
 | some k :: r,some id :: s => bindIds (ρ.bind k id) r s
 | none :: r,_ :: s => bindIds ρ r s
 | _,_ => ρ
def prepL (objs:List (Bool × ObT)):LT → Leaf → PS → Leaf × PS
 | .ptr k off,.ptr id off',p => (.ptr id off',{ p with ρ:=p.ρ.bind k id })
 | .eptr k off,.eptr id i off',p => (.eptr id i off',{ p with ρ:=p.ρ.bind k id })
 | .sl k,.sl id none,p => (.sl id none,{ p with ρ:=p.ρ.bind k id })
 | .sl k,.sl id (some r),p => match p.ρ.at k,look p.s.heap id with
   | none,some (.arr e l) => bif p.s.held id || !Nat.blt 0 e.size then (.sl id (some r),p)
     else (.sl p.s.next none,{ p with s:=(p.s.put id .dead).new (.arr e (sub l (some r))),ρ:=p.ρ.bind k p.s.next,n:=p.n + 1 })
   | _,_ => (.sl id (some r),p)
 | .sl k,.nils,p => match p.ρ.at k with
   | some id => bif has p.g id then (.sl id none,p) else (.nils,p)
   | none => match nth objs k with
     | some (_,.arr e) => (.sl p.s.next none,{ p with s:=p.s.new (.arr e []),ρ:=p.ρ.bind k p.s.next,g:=p.s.next :: p.g,n:=p.n + 1 })
     | _ => (.nils,p)
 | .fn f a b,.fn f' a' b',p => (.fn f' a' b',{ p with ρ:=bindIds (bindIds p.ρ a a') b b' })
 | .ifp t k off,.ifp t' id off',p => (.ifp t' id off',{ p with ρ:=p.ρ.bind k id })
 | .mp k,.mp id,p => (.mp id,{ p with ρ:=p.ρ.bind k id })
 | .slp k _ _,.sl id r,p => (.sl id r,{ p with ρ:=p.ρ.bind k id })
 | _,v,p => (v,p)
def slIds:List Leaf → List Nat
 | [] => []
 | l :: r => match l with
   | .sl id _ => id :: slIds r
   | _ => slIds r
def prepLs (objs:List (Bool × ObT)):List LT → List Leaf → PS → List Leaf × PS
 | [],vs,p => (vs,p)
 | l :: r,ls,p => match l.plain with
   | some t => (ls.take t.size ++ (prepLs objs r (ls.drop t.size) { p with f:=slIds (ls.take t.size) ++ p.f }).1,(prepLs objs r (ls.drop t.size) { p with f:=slIds (ls.take t.size) ++ p.f }).2)
   | none => match ls with
     | [] => ([],p)
     | v :: vs => ((prepL objs l v p).1 :: (prepLs objs r vs (prepL objs l v p).2).1,(prepLs objs r vs (prepL objs l v p).2).2)
def prepSl (objs:List (Bool × ObT)):SlT → SVal → PS → SVal × PS
 | .one l,.one v,p => match (prepLs objs [l] [v] p).1 with
   | [v'] => (.one v',(prepLs objs [l] [v] p).2)
   | _ => (.one v,p)
 | .agg ls,.agg vs,p => (.agg (prepLs objs ls vs p).1,(prepLs objs ls vs p).2)
 | _,v,p => (v,p)
def prepSls (objs:List (Bool × ObT)):List SlT → List SVal → PS → List SVal × PS
 | l :: r,v :: vs,p => ((prepSl objs l v p).1 :: (prepSls objs r vs (prepSl objs l v p).2).1,(prepSls objs r vs (prepSl objs l v p).2).2)
 | _,vs,p => (vs,p)
def prepOb (objs:List (Bool × ObT)) (id:Nat) (mk:List Leaf → SObj) (ls:List LT) (cs:List Leaf) (p:PS):PS :=
 bif Nat.beq (prepLs objs ls cs p).2.n p.n || p.s.held id then (prepLs objs ls cs p).2
 else { (prepLs objs ls cs p).2 with s:=(prepLs objs ls cs p).2.s.put id (mk (prepLs objs ls cs p).1) }
def prepObs (objs:List (Bool × ObT)):Nat → List (Bool × ObT) → PS → PS
 | _,[],p => p
 | k,o :: r,p => match p.ρ.at k with
   | some id => match o.2,look p.s.heap id with
     | .box ls,some (.box cs) => prepObs objs (k + 1) r (prepOb objs id .box ls cs p)
     | .cells ls,some (.cells cs) => prepObs objs (k + 1) r (prepOb objs id .cells ls cs p)
     | .map _ _ _,some (.mrows _ _ _ _) => prepObs objs (k + 1) r { p with f:=id :: p.f }
     | .arr _,some (.zip _ _ _ _) => prepObs objs (k + 1) r { p with f:=id :: p.f }
     | .zip _ ls,some (.zip e pre cs post) => prepObs objs (k + 1) r (prepOb objs id (fun cs => .zip e pre cs post) ls cs p)
     | _,_ => prepObs objs (k + 1) r p
   | none => prepObs objs (k + 1) r p
def unzip (id:Nat) (e:CT) (pre:List e.denote) (cs:List Leaf) (post:List e.denote) (s:St):St :=
 match packL e cs s with
 | some (y,s') => match look s'.heap id with
   | some (.zip _ _ _ _) => s'.put id (.arr e (pre ++ y :: post))
   | _ => s'
 | none => s
def frzs:List Nat → St → St
 | [],s => s
 | id :: r,s => match look s.heap id with
   | some (.arr e l) => bif s.held id then frzs r s else frzs r (s.put id (.frz e l))
   | some (.rows e l none) => bif s.held id then frzs r s else frzs r (s.put id (.frz (.list e) l))
   | some (.mrows k e l none) => bif s.held id then frzs r s else frzs r (s.put id (.map k (.list e) false l))
   | some (.zip e pre cs post) => bif s.held id then frzs r s else frzs r (unzip id e pre cs post s)
   | _ => frzs r s
def rhoIds:Rho → List Nat
 | [] => []
 | some id :: r => id :: rhoIds r
 | none :: r => rhoIds r
def nodupB:List Nat → Bool
 | [] => true
 | x :: r => !has r x && nodupB r
def freeB (s:St):List Nat → Bool
 | [] => true
 | x :: r => !s.held x && freeB s r
structure Packed0 where
 ds:List Dyn
 ρ:Rho
 s:St
def packT (T:Tm) (ρ0:Rho) (vs:List SVal) (s:St):Option Packed0 :=
 match prepSls T.objs T.slots vs { s:=s,ρ:=ρ0 } with
 | (vs',p0) => match prepObs T.objs 0 T.objs p0 with
   | p => match frzs p.f p.s with
     | s1 => match extObs p.ρ s1.heap 0 T.objs,extSls p.ρ s1.heap T.slots vs' with
       | some a,some b => bif nodupB (rhoIds p.ρ) && (freeB s1 (rhoIds p.ρ) && Nat.ble p.ρ.length T.objs.length) then some ⟨a ++ b,p.ρ,s1⟩ else none
       | _,_ => none
def packD (T:Tm) (ρ0:Rho) (vs:List SVal) (s:St):Option (T.ct.denote × Rho × St) :=
 match packT T ρ0 vs s with
 | some p => match toD T.cts p.ds with
   | some d => some (d,p.ρ,p.s)
   | none => none
 | none => none
def noGone:List (Bool × ObT) → Bool
 | [] => true
 | (_,.gone) :: _ => false
 | _ :: r => noGone r
def packIn (T:Tm) (vs:List SVal) (s:St):Option (T.ct.denote × Rho × St) :=
 bif noGone T.objs then packD T [] vs s else none
def renId (f:Nat → Nat):Option Nat → Option Nat
 | some k => some (f k)
 | none => none
def renIds (f:Nat → Nat):List (Option Nat) → List (Option Nat)
 | [] => []
 | x :: r => renId f x :: renIds f r
def renL (f:Nat → Nat):Leaf → Leaf
 | .ptr id off => .ptr (f id) off
 | .eptr id i off => .eptr (f id) i off
 | .sl id r => .sl (f id) r
 | .fn g a b => .fn g (renIds f a) (renIds f b)
 | .ifp t id off => .ifp t (f id) off
 | .mp id => .mp (f id)
 | l => l
def renLs (f:Nat → Nat):List Leaf → List Leaf
 | [] => []
 | l :: r => renL f l :: renLs f r
def renO (f:Nat → Nat):SObj → SObj
 | .box ls => .box (renLs f ls)
 | .cells ls => .cells (renLs f ls)
 | .zip e pre ls post => .zip e pre (renLs f ls) post
 | o => o
def renV (f:Nat → Nat):SVal → SVal
 | .one l => .one (renL f l)
 | .agg ls => .agg (renLs f ls)
 | v => v
def renVs (f:Nat → Nat):List SVal → List SVal
 | [] => []
 | v :: r => renV f v :: renVs f r
def renH (f:Nat → Nat):List (Nat × SObj) → List (Nat × SObj)
 | [] => []
 | (k,o) :: r => (f k,renO f o) :: renH f r
def deads:List Nat → List (Nat × SObj)
 | [] => []
 | id :: r => (id,.dead) :: deads r
def backId (objs:List (Bool × ObT)) (ρ:Rho) (next:Nat) (k:Nat):Nat:=match nth objs k with
 | some (true,_) => match ρ.at k with
   | some id => id
   | none => next + k
 | _ => next + k
def backSt (T:Tm) (ρ:Rho) (T':Tm) (ds:List Dyn) (s:St):St :=
 { s with heap:=renH (backId T.objs ρ s.next) (T'.heap ds) ++ (deads (rhoIds ρ) ++ s.heap),next:=s.next + T'.objs.length }
def backVals (T:Tm) (ρ:Rho) (T':Tm) (ds:List Dyn) (s:St):List SVal:=renVs (backId T.objs ρ s.next) (T'.vals ds)
def stayRho:Nat → List (Bool × ObT) → Rho
 | _,[] => []
 | k,(true,_) :: r => some k :: stayRho (k + 1) r
 | k,(false,_) :: r => none :: stayRho (k + 1) r
def ofConst:Value → Option Leaf
 | .bool b => some (.bool b)
 | .int k n => some (.int k n)
 | .string s => some (.str s.data.toList)
 | .slice none 0 0 => some .nils
 | .pointer none => some .nilp
 | .nilFunc => some .nilf
 | .nilIface => some .nili
 | .map none => some .nilm
 | _ => none
def ofConsts:List Value → Option (List Leaf)
 | [] => some []
 | v :: r => match ofConst v,ofConsts r with
   | some x,some y => some (x :: y)
   | _,_ => none
def ofValue:Value → Option SVal
 | .agg cs => (ofConsts cs.toList).map .agg
 | v => (ofConst v).map .one
def evalO (env:List (Nat × SVal)):Operand → Option SVal
 | .tmp t => look env t
 | .const v => ofValue v
 | .func f => some (.one (.fn f [] []))
 | _ => none
def most:Nat:=274877906944
inductive Ex where
 | norm | out (id:Nat) | ret
 deriving DecidableEq
def sums:List CT → CT
 | [] => .unit
 | [a] => a
 | a :: b :: r => .sum a (sums (b :: r))
structure Blk where
 slots:List Nat
 ins:Tm
 keep:List Nat
 exits:List (Ex × List Nat × Tm)
def outsT (l:List Tm):CT:=sums (l.map Tm.ct)
def exitsT (l:List (Ex × List Nat × Tm)):CT:=sums (l.map fun x => x.2.2.ct)
inductive OrdT where
 | done
 | take (i:Nat) (t:OrdT)
 | only (i:Nat) (t:OrdT)
 | alt (i:Nat) (t r:OrdT)
structure Cx where
 tab:Nat → Option TD
 eqt:Nat → Bool
 keys:Nat → List Nat
 lend:Nat → Bool
 mkr:Nat → Bool
 mt:Nat → String → Option (Nat × Option (Nat × Nat))
 gp:World → (Nat → Prop) → Prop
 gv:Nat → Option Dyn
 it:Nat → Option (CT × Bool)
 kin:Nat → Tm
 kouts:Nat → List Tm
 bk:Nat → Blk
 rf:(φ:Nat) → (kin φ).ct.denote → Option (outsT (kouts φ)).denote
 rb:(κ:Nat) → (bk κ).ins.ct.denote → Option (exitsT (bk κ).exits).denote
structure Hn where
 lk:Nat → Option Nat
 tk:Nat → Option Nat
 dk:Nat → Option (List Nat × OrdT)
 al:Nat → Option Nat
def inb (i:Int) (n:Nat):Bool:=match i with
 | .ofNat k => Nat.blt k n
 | .negSucc _ => false
def inb' (i:Int) (n:Nat):Bool:=match i with
 | .ofNat k => Nat.ble k n
 | .negSucc _ => false
def setNth {α:Type}:List α → Nat → α → List α
 | [],_,_ => []
 | _ :: r,0,y => y :: r
 | x :: r,n + 1,y => x :: setNth r n y
def setMany:List Leaf → Nat → List Leaf → List Leaf
 | l,_,[] => l
 | l,off,v :: vs => setMany (setNth l off v) (off + 1) vs
def lookAll {α:Type} (env:List (Nat × α)):List Nat → Option (List α)
 | [] => some []
 | n :: r => match look env n,lookAll env r with
   | some x,some y => some (x :: y)
   | _,_ => none
def evalAll (env:List (Nat × SVal)):List Operand → Option (List SVal)
 | [] => some []
 | n :: r => match evalO env n,evalAll env r with
   | some x,some y => some (x :: y)
   | _,_ => none
def SVal.leaves:SVal → Option (List Leaf)
 | .one l => some [l]
 | .agg cs => some cs
 | .tup _ => none
 | .skip => none
def SVal.isAgg:SVal → Bool
 | .agg _ => true
 | _ => false
def TD.size:TD → Nat
 | .leaf _ => 1
 | .struct _ zs => zs.length
 | .slice _ _ => 1
 | .arr _ _ _ zs => zs.length
 | .map _ _ _ => 1
def TD.agg:TD → Bool
 | .struct _ _ => true
 | .arr _ _ _ _ => true
 | _ => false
def TD.zeros:TD → List Leaf
 | .leaf z => [z]
 | .struct _ zs => zs
 | .slice _ _ => [.nils]
 | .arr _ _ _ zs => zs
 | .map _ _ _ => [.nilm]
def asVal (agg:Bool) (cs:List Leaf):Option SVal :=
 match agg,cs with
 | true,cs => some (.agg cs)
 | false,[v] => some (.one v)
 | false,_ => none
def rowOf:Option SObj → Option (Nat × Nat)
 | some (.arr e l) => some (e.size,l.length)
 | some (.frz e l) => some (e.size,l.length)
 | some (.cells cs) => some (1,cs.length)
 | some (.rows _ l _) => some (1,l.length)
 | some (.zip e l _ m) => some (e.size,l.length + (1 + m.length))
 | _ => none
def CT.sz:CT → Nat
 | .unit => 1
 | e => e.size
def lenOf (td:TD) (s:St) (v:Leaf):Option Nat :=
 match td,v with
 | .leaf (.str _),.str x => some x.length
 | .slice _ _,.list _ l => some l.length
 | .slice _ _,.clist _ l => some l.length
 | .slice _ _,.nils => some 0
 | .slice e _,.sl id none => match rowOf (look s.heap id) with
   | some (sz,n) => bif Nat.beq sz e.sz then some n else none
   | none => none
 | .slice e _,.sl id (some (_,n)) => match rowOf (look s.heap id) with
   | some (sz,_) => bif Nat.beq sz e.sz then some n else none
   | none => none
 | _,_ => none
def lenMpK (td:TD) (s:St) (v:Leaf):Option Nat :=
 match td,v with
 | .map _ _ _,.mp id => match look s.heap id with
   | some (.map _ _ _ l) => some l.length
   | _ => none
 | _,_ => none
def eqLeaf:Leaf → Leaf → Option Bool
 | .int k x,.int k' y => if k = k' then some (x == y) else none
 | .bool x,.bool y => some (x == y)
 | .str x,.str y => some (x == y)
 | _,_ => none
def eqLeaves:List Leaf → List Leaf → Option Bool
 | [],[] => some true
 | [x],[y] => eqLeaf x y
 | x :: xs,y :: ys => match eqLeaf x y,eqLeaves xs ys with
   | some a,some b => some (a && b)
   | _,_ => none
 | _,_ => none
def likes:List Leaf → List Leaf → Bool
 | [],[] => true
 | .int k _ :: r,.int k' _ :: s => decide (k' = k) && likes r s
 | .bool _ :: r,.bool _ :: s => likes r s
 | .str _ :: r,.str _ :: s => likes r s
 | _,_ => false
variable {R:Type}
def andI (j:IntKind) (a b:Int):Int:=j.wrap ((BitVec.ofInt j.bits a &&& BitVec.ofInt j.bits b).toNat:Nat)
def orI (j:IntKind) (a b:Int):Int:=j.wrap ((BitVec.ofInt j.bits a ||| BitVec.ofInt j.bits b).toNat:Nat)
def xorI (j:IntKind) (a b:Int):Int:=j.wrap ((BitVec.ofInt j.bits a ^^^ BitVec.ofInt j.bits b).toNat:Nat)
def shlI (j:IntKind) (a b:Int):Int:=j.wrap (a * 2 ^ (min b.toNat j.bits))
def shrI (j:IntKind) (a b:Int):Int:=a.fdiv (2 ^ (min b.toNat j.bits))
def ltB:List UInt8 → List UInt8 → Bool
 | _,[] => false
 | [],_ :: _ => true
 | a :: x,b :: y => decide (a < b) || (a == b && ltB x y)
def binK (eqt:Bool) (td:Option TD) (op:BinOp) (x y:SVal) (k:SVal → Option R):Option R :=
 match x,y with
 | .one (.int j a),.one (.int j' b) =>
   if j = j' then
    match op with
    | .add => k (.one (.int j (j.wrap (a + b))))
    | .sub => k (.one (.int j (j.wrap (a - b))))
    | .mul => k (.one (.int j (j.wrap (a * b))))
    | .quo => bif b == 0 then none else k (.one (.int j (j.wrap (a.tdiv b))))
    | .rem => bif b == 0 then none else k (.one (.int j (a.tmod b)))
    | .eql => k (.one (.bool (a == b)))
    | .neq => k (.one (.bool (a != b)))
    | .lss => k (.one (.bool (decide (a < b))))
    | .leq => k (.one (.bool (decide (a ≤ b))))
    | .gtr => k (.one (.bool (decide (a > b))))
    | .geq => k (.one (.bool (decide (a ≥ b))))
    | .and => k (.one (.int j (andI j a b)))
    | .or => k (.one (.int j (orI j a b)))
    | .xor => k (.one (.int j (xorI j a b)))
    | .shl => bif decide (b < 0) then none else k (.one (.int j (shlI j a b)))
    | .shr => bif decide (b < 0) then none else k (.one (.int j (shrI j a b)))
    | _ => none
   else match op with
    | .shl => bif decide (b < 0) then none else k (.one (.int j (shlI j a b)))
    | .shr => bif decide (b < 0) then none else k (.one (.int j (shrI j a b)))
    | _ => none
 | .one (.bool a),.one (.bool b) =>
   match op,td with
   | .eql,some (.leaf (.bool _)) => k (.one (.bool (a == b)))
   | .neq,some (.leaf (.bool _)) => k (.one (.bool (!(a == b))))
   | _,_ => none
 | .one (.str a),.one (.str b) =>
   match op with
   | .eql => k (.one (.bool (a == b)))
   | .neq => k (.one (.bool (!(a == b))))
   | .add => bif Nat.ble (a.length + b.length) most then k (.one (.str (a ++ b))) else none
   | .lss => k (.one (.bool (ltB a b)))
   | .leq => k (.one (.bool (ltB a b || a == b)))
   | .gtr => k (.one (.bool (!(ltB a b || a == b))))
   | .geq => k (.one (.bool (!(ltB a b))))
   | _ => none
 | .one (.list _ l),.one .nils =>
   match op,td with
   | .eql,some (.slice _ _) => bif l.isEmpty then k (.one .anyb) else k (.one (.bool false))
   | .neq,some (.slice _ _) => bif l.isEmpty then k (.one .anyb) else k (.one (.bool true))
   | _,_ => none
 | .agg a,.agg b =>
   match td with
   | some (.struct _ zs) => bif eqt && likes zs a then (match op,eqLeaves a b with
     | .eql,some t => k (.one (.bool t))
     | .neq,some t => k (.one (.bool (!t)))
     | _,_ => none) else none
   | _ => none
 | _,_ => none
def unK (op:UnOp) (x:SVal) (k:SVal → Option R):Option R :=
 match op,x with
 | .neg,.one (.int j a) => k (.one (.int j (j.wrap (0 - a))))
 | .not,.one (.bool b) => k (.one (.bool (!b)))
 | _,_ => none
def boundK (lo hi:Option SVal) (len:Nat) (k:Nat → Nat → Option R):Option R :=
 match lo,hi with
 | none,none => k 0 len
 | none,some (.one (.int _ h)) => bif inb' h len then k 0 h.toNat else none
 | some (.one (.int _ l)),none => bif inb' l len then k l.toNat len else none
 | some (.one (.int _ l)),some (.one (.int _ h)) => bif inb' h len then (bif inb' l h.toNat then k l.toNat h.toNat else none) else none
 | _,_ => none
def splitN:Nat → Nat → (Nat → Option R) → Option R
 | 0,i,k => bif Nat.beq i 0 then k 0 else none
 | n + 1,i,k => bif Nat.beq i (n + 1) then k (n + 1) else splitN n i k
def cellsN (s:St) (id n h:Nat) (k:Nat → Option R):Option R :=
 match look s.heap id with
 | some (.cells _) => splitN n h k
 | _ => k h
def sliceK (td:TD) (s:St) (x:SVal) (lo hi:Option SVal) (k:SVal → Option R):Option R :=
 match td,x with
 | .leaf (.str _),.one (.str a) => boundK lo hi a.length fun l h => k (.one (.str (sub a (some (l,h - l)))))
 | .slice e _,.one (.list e' a) => bif Nat.beq e'.size e.sz then boundK lo hi a.length fun l h => k (.one (.list e' (sub a (some (l,h - l))))) else none
 | .slice _ _,.one .nils => boundK lo hi 0 fun _ _ => k (.one .nils)
 | .slice e _,.one (.sl id none) => match rowOf (look s.heap id) with
   | some (sz,n) => bif Nat.beq sz e.sz then boundK lo hi n fun l h => cellsN s id n h fun h' => k (.one (.sl id (some (l,h' - l)))) else none
   | none => none
 | .slice e _,.one (.sl id (some (off,n))) => match rowOf (look s.heap id) with
   | some (sz,_) => bif Nat.beq sz e.sz then boundK lo hi n fun l h => k (.one (.sl id (some (off + l,h - l)))) else none
   | none => none
 | _,_ => none
def slice3K (td:TD) (x hi mx:SVal) (k:SVal → Option R):Option R :=
 match td,x,hi,mx with
 | .slice e _,.one (.list e' a),.one (.int _ h),.one (.int _ m) => bif Nat.beq e'.size e.sz && ((h == ((a.length:Nat):Int)) && (m == ((a.length:Nat):Int))) then k (.one (.clist e' a)) else none
 | _,_,_,_ => none
def gOp (gv:Nat → Option Dyn):Operand → Option SVal
 | .global g => match gv g with
   | some d => some (.one (.vptr d.t d.x 0))
   | none => none
 | _ => none
def ints:(t:CT) → List Leaf → Option t.denote
 | .int k,[.int k' x] => if k' = k then some x else none
 | .str,[.str x] => some x
 | .prod .str b,.str x :: r => match ints b r with
   | some y => some (x,y)
   | none => none
 | .prod (.int k) b,.int k' x :: r => if k' = k then (match ints b r with
   | some y => some (x,y)
   | none => none) else none
 | _,_ => none
def intRows (e:CT):List (List Leaf) → Option (List e.denote)
 | [] => some []
 | r :: rs => match ints e r,intRows e rs with
   | some x,some y => some (x :: y)
   | _,_ => none
def chunks (n:Nat):(count:Nat) → List Leaf → List (List Leaf)
 | 0,_ => []
 | k + 1,l => l.take n :: chunks n k (l.drop n)
def arrK (e:CT) (n:Nat) (agg:Bool) (cs:List Leaf) (j:Int) (k:SVal → Option R):Option R :=
 match intRows e (chunks e.size n cs) with
 | some l => bif inb j n then (nth l j.toNat).bind fun x => match asVal agg (unpackL e x) with
    | some v => k v
    | none => none
   else none
 | none => none
def cutK (td:TD) (cs:List Leaf) (off:Nat) (k:SVal → Option R):Option R :=
 bif Nat.ble (off + td.size) cs.length then
  match asVal td.agg ((cs.drop off).take td.size) with
  | some v => k v
  | none => none
 else none
def loadK (s:St) (td:TD) (a:SVal) (k:SVal → Option R):Option R :=
 match a with
 | .one (.ptr id off) => match look s.heap id with
   | some (.box cs) => cutK td cs off k
   | some (.cells cs) => cutK td cs off k
   | _ => none
 | .one (.vptr e x off) => cutK td (unpackL e x) off k
 | .one (.eptr id i off) => match look s.heap id with
   | some (.arr e l) => (nth l i).bind fun x => cutK td (unpackL e x) off k
   | some (.frz e l) => (nth l i).bind fun x => cutK td (unpackL e x) off k
   | some (.zip _ l cs _) => bif Nat.beq i l.length then cutK td cs off k else none
   | _ => none
 | _ => none
def setK (id i:Nat) (e:CT) (y:e.denote) (s:St) (k:St → Option R):Option R :=
 match look s.heap id with
 | some (.arr e' l) => if h:e' = e then (bif s.held id then none else k (s.put id (.arr e (setNth (h ▸ l:List e.denote) i y)))) else none
 | _ => none
def zipB (s:St) (n:Nat) (vs:List Leaf):Bool:=match vs with
 | [.sl id none] => (match look s.heap id with
   | some (.arr _ _) => !s.held id
   | _ => false) && !Nat.beq n 1
 | _ => false
def storeA (s:St) (td:TD) (id i off:Nat) (e:CT) (l:List e.denote) (vs:List Leaf) (k:St → Option R):Option R :=
 bif Nat.beq vs.length td.size && (Nat.ble (off + vs.length) e.size && vs.all Leaf.def) then
   (bif Nat.beq off 0 && Nat.beq vs.length e.size then
     match packL e vs s with
     | some (y,s') => bif Nat.blt i l.length then setK id i e y s' k else none
     | none => none
   else (nth l i).bind fun x => match packL e (setMany (unpackL e x) off vs) s with
    | some (y,s') => setK id i e y s' k
    | none => none)
  else none
def storeK (s:St) (td:TD) (a v:SVal) (k:St → Option R):Option R :=
 match a,v.leaves with
 | .one (.ptr id off),some vs => match look s.heap id with
   | some (.box cs) => bif Nat.beq vs.length td.size && (Nat.ble (off + vs.length) cs.length && (vs.all Leaf.def && !s.held id)) then k (s.put id (.box (setMany cs off vs))) else none
   | _ => none
 | .one (.eptr id i off),some vs => match look s.heap id with
   | some (.zip e l cs m) => bif Nat.beq i l.length && (Nat.beq vs.length td.size && (Nat.ble (off + vs.length) cs.length && (vs.all Leaf.def && !s.held id))) then k (s.put id (.zip e l (setMany cs off vs) m)) else none
   | some (.arr e l) => bif zipB s e.size vs then
      (bif Nat.beq vs.length td.size && (Nat.ble (off + vs.length) e.size && (vs.all Leaf.def && !s.held id)) then
        (nth l i).bind fun x => k (s.put id (.zip e (l.take i) (setMany (unpackL e x) off vs) (l.drop (i + 1))))
      else none)
     else storeA s td id i off e l vs k
   | _ => none
 | _,_ => none
def rowPtr (s:St) (id i:Nat):Leaf :=
 match look s.heap id with
 | some (.cells _) => .ptr id i
 | _ => .eptr id i 0
def ptrK (s:St) (id i:Nat) (k:SVal → Option R):Option R :=
 match look s.heap id with
 | some (.cells cs) => splitN (cs.length - 1) i fun i' => k (.one (.ptr id i'))
 | _ => k (.one (.eptr id i 0))
def indexAddrK (td:TD) (s:St) (x:SVal) (i:SVal) (k:SVal → Option R):Option R :=
 match td,x,i with
 | .slice e' _,.one (.list e l),.one (.int _ j) => bif Nat.beq e.size e'.sz && inb j l.length then (nth l j.toNat).bind fun x => k (.one (.vptr e x 0)) else none
 | .slice e' _,.one (.clist e l),.one (.int _ j) => bif Nat.beq e.size e'.sz && inb j l.length then (nth l j.toNat).bind fun x => k (.one (.vptr e x 0)) else none
 | .slice e' _,.one (.sl id none),.one (.int _ j) =>
   match rowOf (look s.heap id) with
   | some (sz,n) => bif Nat.beq sz e'.sz && inb j n then ptrK s id j.toNat k else none
   | none => none
 | .slice e' _,.one (.sl id (some (off,n))),.one (.int _ j) =>
   match rowOf (look s.heap id) with
   | some (sz,_) => bif Nat.beq sz e'.sz && inb j n then ptrK s id (off + j.toNat) k else none
   | none => none
 | _,_,_ => none
def srcK (e:CT) (s:St):SVal → Option (List e.denote)
 | .one .nils => some []
 | .one (.list e' l) => if h:e' = e then some (h ▸ l:List e.denote) else none
 | .one (.clist e' l) => if h:e' = e then some (h ▸ l:List e.denote) else none
 | .one (.sl id r) => match look s.heap id with
   | some (.arr e' l) => if h:e' = e then some (sub (h ▸ l:List e.denote) r) else none
   | some (.frz e' l) => if h:e' = e then some (sub (h ▸ l:List e.denote) r) else none
   | _ => none
 | _ => none
def appendK (e:CT) (s:St) (x y:SVal) (k:SVal → St → Option R):Option R :=
 match srcK e s y with
 | some b => match x with
   | .one .nils => bif Nat.ble b.length most then k (.one (.sl s.next none)) (s.new (.arr e b)) else none
   | .one (.clist e' l) => if h:e' = e then bif Nat.ble (l.length + b.length) most && Nat.blt 0 b.length then k (.one (.sl s.next none)) (s.new (.arr e ((h ▸ l:List e.denote) ++ b))) else none else none
   | .one (.sl id r) => match look s.heap id with
     | some (.arr e' l) => if h:e' = e then
        bif Nat.ble ((sub l r).length + b.length) most && ((r.isNone || Nat.blt 0 b.length) && !s.held id) then
         k (.one (.sl s.next none)) ((s.put id .dead).new (.arr e (sub (h ▸ l:List e.denote) r ++ b)))
        else none
       else none
     | _ => none
   | _ => none
 | none => none
def spliceK (s:St) (id:Nat) (e:CT) (r:Option (Nat × Nat)) (xs:List e.denote) (k:St → Option R):Option R :=
 match look s.heap id with
 | some (.arr e' l) => if h:e' = e then (bif !s.held id && Nat.ble ((r.getD (0,l.length)).1 + xs.length) l.length then k (s.put id (.arr e ((h ▸ l:List e.denote).take (r.getD (0,l.length)).1 ++ xs ++ (h ▸ l:List e.denote).drop ((r.getD (0,l.length)).1 + xs.length)))) else none) else none
 | _ => none
def partLen (s:St) (id:Nat):Option (Nat × Nat) → Nat
 | some (_,n) => n
 | none => match rowOf (look s.heap id) with
   | some (_,n) => n
   | none => 0
def fillK (env:List (Nat × SVal)) (place:Nat → Option (Nat × Nat)):List Leaf → List (Nat × Operand) → Option (List Leaf)
 | cs,[] => some cs
 | cs,(i,o) :: r => match place i,evalO env o with
   | some (off,size),some v => match v.leaves with
     | some vs => bif Nat.beq vs.length size && Nat.ble (off + size) cs.length && (vs.all Leaf.def || v.isAgg) then fillK env place (setMany cs off vs) r else none
     | none => none
   | _,_ => none
def repeatL:Nat → List Leaf → List Leaf
 | 0,_ => []
 | n + 1,zs => zs ++ repeatL n zs
def zero1:CT → Leaf
 | .int k => .int k 0
 | .bool => .bool false
 | .str => .str []
 | .list _ => .nils
 | .any true => .nilp
 | .any false => .nili
 | _ => .undef
def CT.leaf:CT → Bool
 | .int _ | .bool | .str | .list _ | .any _ => true
 | _ => false
def CT.wf:CT → Bool
 | .prod a b => a.leaf && b.wf
 | .sum _ _ => false
 | .unit => false
 | _ => true
def zerosOf:CT → List Leaf
 | .prod a b => zero1 a :: zerosOf b
 | .unit => []
 | .sum _ _ => []
 | t => [zero1 t]
def madeS:Bool → (e:CT) → Nat → SObj
 | true,.list e,n => .rows e (List.replicate n []) none
 | _,e,n => .arr e (List.replicate n e.zero)
def madeM:Bool → (k v:CT) → Bool → SObj
 | true,k,.list e,false => .mrows k e [] none
 | _,k,v,agg => .map k v agg []
def partOf:SVal → Option (List Leaf × Bool)
 | .one v => some ([v],false)
 | .agg cs => some (cs,true)
 | .tup _ => none
 | .skip => none
def partsOf:List SVal → Option (List (List Leaf × Bool))
 | [] => some []
 | v :: vs => match partOf v,partsOf vs with
   | some p,some ps => some (p :: ps)
   | _,_ => none
def resultVal (vs:List SVal):Option SVal :=
 match vs with
 | [v] => some v
 | vs => match partsOf vs with
   | some ps => some (.tup ps)
   | none => none
def leaveF (T:Tm) (ρ:Rho) (s:St):(l:List Tm) → (outsT l).denote → (SVal → St → Option R) → Option R
 | [],_,_ => none
 | [T'],y,k => match resultVal (backVals T ρ T' (fromD T'.cts y) s) with
   | some v => k v (backSt T ρ T' (fromD T'.cts y) s)
   | none => none
 | T' :: b :: r,y,k => match y with
   | .inl a => match resultVal (backVals T ρ T' (fromD T'.cts a) s) with
     | some v => k v (backSt T ρ T' (fromD T'.cts a) s)
     | none => none
   | .inr c => leaveF T ρ s (b :: r) c k
def Leaf.flat:Leaf → Bool
 | .int _ _ => true
 | .bool _ => true
 | .str _ => true
 | _ => false
def SVal.flat:SVal → Bool
 | .one l => l.flat
 | .agg ls => ls.all Leaf.flat
 | _ => false
def leaveN (s:St):(l:List Tm) → (outsT l).denote → (SVal → St → Option R) → Option R
 | [],_,_ => none
 | [T'],y,k => bif T'.objs.isEmpty && (T'.vals (fromD T'.cts y)).all SVal.flat then (match resultVal (T'.vals (fromD T'.cts y)) with
   | some v => k v s
   | none => none) else none
 | T' :: b :: r,y,k => match y with
   | .inl a => bif T'.objs.isEmpty && (T'.vals (fromD T'.cts a)).all SVal.flat then (match resultVal (T'.vals (fromD T'.cts a)) with
     | some v => k v s
     | none => none) else none
   | .inr c => leaveN s (b :: r) c k
def callTry (cx:Cx) (args:List SVal) (s:St) (k:SVal → St → Option R):List Nat → Option R
 | [] => none
 | φ :: r => match packIn (cx.kin φ) args s with
   | some (d,ρ,s1) => (cx.rf φ d).bind fun y => bif cx.lend φ then (bif (cx.kin φ).objs.isEmpty then leaveN s (cx.kouts φ) y k else none) else leaveF (cx.kin φ) ρ s1 (cx.kouts φ) y k
   | none => callTry cx args s k r
def idLeaf:Option Nat → Leaf
 | some id => .ptr id 0
 | none => .nilp
def idVals:List (Option Nat) → List SVal
 | [] => []
 | x :: r => .one (idLeaf x) :: idVals r
def callK (cx:Cx) (v:SVal) (args:List SVal) (s:St) (k:SVal → St → Option R):Option R :=
 match v with
 | .one (.fn f a b) => callTry cx (idVals a ++ (args ++ idVals b)) s k (cx.keys f)
 | _ => none
def maxK (k:SVal → Option R):IntKind → Int → List SVal → Option R
 | j,a,[] => k (.one (.int j a))
 | j,a,.one (.int _ b) :: r => maxK k j (if b > a then b else a) r
 | _,_,_ => none
def minK (k:SVal → Option R):IntKind → Int → List SVal → Option R
 | j,a,[] => k (.one (.int j a))
 | j,a,.one (.int _ b) :: r => minK k j (if b < a then b else a) r
 | _,_,_ => none
def extractK (x:SVal) (i:Nat) (k:SVal → Option R):Option R :=
 match x with
 | .tup ps => match nth ps i with
   | some (cs,agg) => match asVal agg cs with
     | some v => k v
     | none => none
   | none => none
 | _ => none
def fieldAddrK (td:TD) (x:SVal) (f:Nat) (k:SVal → Option R):Option R :=
 match td with
 | .struct fs _ => match nth fs f,x with
   | some (o,_,_),.one (.ptr id off) => k (.one (.ptr id (off + o)))
   | some (o,_,_),.one (.eptr id i off) => k (.one (.eptr id i (off + o)))
   | some (o,_,_),.one (.vptr e x off) => k (.one (.vptr e x (off + o)))
   | _,_ => none
 | _ => none
def fieldK (td:TD) (x:SVal) (f:Nat) (k:SVal → Option R):Option R :=
 match td with
 | .struct fs _ => match nth fs f,x with
   | some (o,n,agg),.agg cs => match asVal agg ((cs.drop o).take n) with
     | some v => k v
     | none => none
   | _,_ => none
 | _ => none
def leafIds:List SVal → Option (List (Option Nat))
 | [] => some []
 | .one (.ptr id 0) :: r => match leafIds r with
   | some l => some (some id :: l)
   | none => none
 | .one .nilp :: r => match leafIds r with
   | some l => some (none :: l)
   | none => none
 | _ => none
def assoc {K V:Type} (eq:K → K → Bool):List (K × V) → K → Option V
 | [],_ => none
 | p :: r,x => bif eq x p.1 then some p.2 else assoc eq r x
def assocGet {K V:Type} (eq:K → K → Bool) (z:V) (l:List (K × V)) (x:K):V:=match assoc eq l x with
 | some v => v
 | none => z
def assocHas {K V:Type} (eq:K → K → Bool) (l:List (K × V)) (x:K):Bool:=match assoc eq l x with
 | some _ => true
 | none => false
def assocSet {K V:Type} (eq:K → K → Bool):List (K × V) → K → V → List (K × V)
 | [],x,y => [(x,y)]
 | p :: r,x,y => bif eq x p.1 then (x,y) :: r else p :: assocSet eq r x y
def CT.eqK:(k:CT) → k.denote → k.denote → Bool
 | .int _,a,b => @BEq.beq Int _ a b
 | .bool,a,b => @BEq.beq Bool _ a b
 | .str,a,b => @BEq.beq (List UInt8) _ a b
 | _,_,_ => false
def keyOf:(k:CT) → Leaf → Option k.denote
 | .int k,.int k' x => if k' = k then some x else none
 | .bool,.bool b => some b
 | .str,.str s => some s
 | _,_ => none
def castE {k k' v v':CT} (h:k' = k) (g:v' = v) (l:List (k'.denote × v'.denote)):List (k.denote × v.denote):=match k',v',h,g with
 | _,_,rfl,rfl => l
def lookupK (td:TD) (s:St) (x i:SVal) (ok:Bool) (k:SVal → Option R):Option R :=
 match td,x,i with
 | .map kt vt agg,.one (.mp id),.one l => match look s.heap id with
   | some (.map k' v' agg' es) => if k' = kt ∧ v' = vt ∧ agg' = agg then
      match keyOf k' l with
      | some y => match ok with
        | true => k (.tup [(unpackL v' (assocGet k'.eqK v'.zero es y),agg'),([.bool (assocHas k'.eqK es y)],false)])
        | false => match asVal agg' (unpackL v' (assocGet k'.eqK v'.zero es y)) with
          | some r => k r
          | none => none
      | none => none
     else none
   | _ => none
 | _,_,_ => none
def updateK (td:TD) (s:St) (x i y:SVal) (k:St → Option R):Option R :=
 match td,x,i,y.leaves with
 | .map kt vt agg,.one (.mp id),.one l,some vs => bif (vs.all Leaf.def || y.isAgg) && (y.isAgg == agg) then
    match keyOf kt l,packL vt vs s with
    | some q,some (z,s') => match look s'.heap id with
      | some (.map k' v' agg' es) => if h:k' = kt then if g:v' = vt then bif (agg' == agg) && !s'.held id then k (s'.put id (.map kt vt agg (assocSet kt.eqK (castE h g es) q z))) else none else none else none
      | _ => none
    | _,_ => none
   else none
 | _,_,_,_ => none
def assocDel {K V:Type} (eq:K → K → Bool):List (K × V) → K → List (K × V)
 | [],_ => []
 | p :: r,x => bif eq x p.1 then r else p :: assocDel eq r x
def deleteK (td:TD) (s:St) (x i:SVal) (k:St → Option R):Option R :=
 match td,x,i with
 | .map kt _ _,.one (.mp id),.one l => match look s.heap id with
   | some (.map k' v' agg' es) => if k' = kt then (match keyOf k' l with
     | some q => bif !s.held id then k (s.put id (.map k' v' agg' (assocDel k'.eqK es q))) else none
     | none => none) else none
   | _ => none
 | _,_,_ => none
def outB:Option Nat → Nat → Bool
 | none,_ => true
 | some j,i => Nat.beq j i
def outI:Option Nat → Option Nat → Bool
 | none,_ => true
 | some j,some i => Nat.beq j i
 | some _,none => false
def assocIx {K V:Type} (eq:K → K → Bool):List (K × V) → K → Nat → Option Nat
 | [],_,_ => none
 | p :: r,x,i => bif eq x p.1 then some i else assocIx eq r x (i + 1)
def takeK (s:St) (id:Nat) (o:SObj) (e:CT) (row:List e.denote) (k:SVal → St → Option R):Option R :=
 bif !s.held id && Nat.blt 0 e.size then k (.one (.sl s.next none)) ((s.put id o).new (.arr e row)) else none
def loadS (s:St) (td:TD) (a:SVal) (k:SVal → St → Option R):Option R :=
 match a with
 | .one (.eptr id i 0) => match look s.heap id with
   | some (.rows e l none) => match td with
     | .slice e' _ => if e' = e then (nth l i).bind fun row => takeK s id (.rows e l (some i)) e row k else none
     | _ => none
   | _ => loadK s td a fun r => k r s
 | _ => loadK s td a fun r => k r s
def rowK (s:St) (e:CT) (v:SVal) (k:Nat → List e.denote → Option R):Option R :=
 match v with
 | .one (.sl id none) => match look s.heap id with
   | some (.arr e' row) => if h:e' = e then (bif !s.held id && Nat.blt 0 e.size then k id (h ▸ row:List e.denote) else none) else none
   | _ => none
 | _ => none
def storeS (s:St) (td:TD) (a v:SVal) (k:St → Option R):Option R :=
 match a with
 | .one (.eptr id i 0) => match look s.heap id with
   | some (.rows e l g) => match td with
     | .slice _ _ => rowK s e v fun id' row => bif outB g i && (Nat.blt i l.length && !s.held id) then k ((s.put id' .dead).put id (.rows e (setNth l i row) none)) else none
     | _ => none
   | _ => storeK s td a v k
 | _ => storeK s td a v k
def lookupS (td:TD) (s:St) (x i:SVal) (ok:Bool) (k:SVal → St → Option R):Option R :=
 match x with
 | .one (.mp id) => match look s.heap id with
   | some (.mrows kt e l none) => match td,i,ok with
     | .map kt' vt agg,.one lf,false => if kt' = kt ∧ vt = .list e ∧ agg = false then (match keyOf kt lf with
       | some y => takeK s id (.mrows kt e l (assocIx kt.eqK l y 0)) e (assocGet kt.eqK [] l y) k
       | none => none) else none
     | _,_,_ => none
   | _ => lookupK td s x i ok fun r => k r s
 | _ => lookupK td s x i ok fun r => k r s
def updateS (td:TD) (s:St) (x i y:SVal) (k:St → Option R):Option R :=
 match x with
 | .one (.mp id) => match look s.heap id with
   | some (.mrows kt e l g) => match td,i with
     | .map kt' vt agg,.one lf => if kt' = kt ∧ vt = .list e ∧ agg = false then (match keyOf kt lf with
       | some q => rowK s e y fun id' row => bif outI g (assocIx kt.eqK l q 0) && !s.held id then k ((s.put id' .dead).put id (.mrows kt e (assocSet kt.eqK l q row) none)) else none
       | none => none) else none
     | _,_ => none
   | _ => updateK td s x i y k
 | _ => updateK td s x i y k
def invokeK (cx:Cx) (name:String) (v:SVal) (args:List SVal) (s:St) (k:SVal → St → Option R):Option R :=
 match v with
 | .one (.ifp t id off) => match cx.mt t name with
   | some (f,none) => callTry cx (.one (.ptr id off) :: args) s k (cx.keys f)
   | some (f,some (ty,o)) => match cx.tab ty with
     | some td => loadK s td (.one (.ptr id (off + o))) fun r => callTry cx (r :: args) s k (cx.keys f)
     | none => none
   | none => none
 | _ => none
def strOf (l:List Int):List UInt8:=l.map fun n => UInt8.ofNat n.toNat
def bytesOf (a:List UInt8):List Int:=a.map fun b => ((b.toNat:Nat):Int)
def byteT (tab:Nat → Option TD) (en:Nat):Bool:=match tab en with
 | some (.leaf (.int .u8 _)) => true
 | _ => false
def convK (tab:Nat → Option TD) (td dd:TD) (same:Bool) (s:St) (v:SVal) (k:SVal → St → Option R):Option R :=
 match dd,v with
 | .slice (.int .u8) en,.one (.str a) => bif byteT tab en then k (.one (.sl s.next none)) (s.new (.arr (.int .u8) (bytesOf a))) else none
 | .slice (.int .u8) en,.one (.sl id none) => match look s.heap id with
   | some (.arr (.int .u8) l) => bif byteT tab en && (same && (Nat.blt 0 l.length && !s.held id)) then k (.one (.sl id none)) (s.put id (.arr (.int .u8) l)) else none
   | _ => none
 | .leaf (.str _),v => match td with
   | .slice (.int .u8) en => bif byteT tab en then (match srcK (.int .u8) s v with
     | some l => k (.one (.str (strOf l))) s
     | none => none) else none
   | _ => none
 | _,_ => none
def stepK (cx:Cx) (o:Oper) (s:St) (k:St → Option R):Option R :=
 match o.op with
 | .move x | .assign x => match evalO s.env x with
   | some v => k (s.set o.dst v)
   | none => none
 | .pick c a b => match evalO s.env c with
   | some (.one (.bool t)) => bif t then (match evalO s.env a with
      | some v => k (s.set o.dst v)
      | none => none) else (match evalO s.env b with
      | some v => k (s.set o.dst v)
      | none => none)
   | _ => none
 | .alloc t => match cx.tab t with
   | some td => k ((s.new (.box td.zeros)).set o.dst (.one (.ptr s.next 0)))
   | none => none
 | .box t x => match cx.tab t,evalO s.env x with
   | some td,some v => match v.leaves with
     | some vs => bif Nat.beq vs.length td.size && (vs.all Leaf.def || v.isAgg) then k ((s.new (.box vs)).set o.dst (.one (.ptr s.next 0))) else none
     | none => none
   | _,_ => none
 | .build t ps => match cx.tab t with
   | some (.struct fs zs) => match fillK s.env (fun i => (nth fs i).map fun x => (x.1,x.2.1)) zs ps.toList with
     | some cs => k (s.set o.dst (.agg cs))
     | none => none
   | some (.arr e n _ zs) => match fillK s.env (fun i => some (i * e.size,e.size)) zs ps.toList with
     | some cs => k (s.set o.dst (.agg cs))
     | none => none
   | _ => none
 | .buildSlice t n ps => match cx.tab t with
   | some (.slice .unit _) => bif Nat.ble n 16777216 then match fillK s.env (fun i => some (i,1)) (repeatL n [.undef]) ps.toList with
     | some cs => k ((s.new (.cells cs)).set o.dst (.one (.sl s.next none)))
     | none => none
     else none
   | some (.slice e _) => bif Nat.ble (n * e.size) 16777216 then match fillK s.env (fun i => some (i * e.size,e.size)) (repeatL n (zerosOf e)) ps.toList with
     | some cs => match packRows e (chunks e.size n cs) s with
       | some (l,s') => k ((s'.new (.arr e l)).set o.dst (.one (.sl s'.next none)))
       | none => none
     | none => none
     else none
   | _ => none
 | .load t a => match gOp cx.gv a with
   | some u => match cx.tab t with
     | some td => loadK s td u fun r => k (s.set o.dst r)
     | none => none
   | none => match cx.tab t,evalO s.env a with
     | some td,some v => loadS s td v fun r s' => k (s'.set o.dst r)
     | _,_ => none
 | .store t a x => match cx.tab t,evalO s.env a,evalO s.env x with
   | some td,some v,some y => storeS s td v y fun s' => k (s'.set o.dst (.one .undef))
   | _,_,_ => none
 | .nilCheck x => match evalO s.env x with
   | some (.one (.ptr id off)) => k (s.set o.dst (.one (.ptr id off)))
   | some (.one (.eptr id i off)) => k (s.set o.dst (.one (.eptr id i off)))
   | some (.one (.vptr e x off)) => k (s.set o.dst (.one (.vptr e x off)))
   | _ => none
 | .binOp op t x y _ => match evalO s.env x,evalO s.env y with
   | some a,some b => binK (cx.eqt t) (cx.tab t) op a b fun r => k (s.set o.dst r)
   | _,_ => none
 | .unOp op _ x => match evalO s.env x with
   | some a => unK op a fun r => k (s.set o.dst r)
   | none => none
 | .convert t d x => match cx.tab t,cx.tab d,evalO s.env x with
   | some _,some (.leaf (.int j _)),some (.one (.int _ a)) => k (s.set o.dst (.one (.int j (j.wrap a))))
   | some _,some (.leaf (.str _)),some (.one (.str a)) => k (s.set o.dst (.one (.str a)))
   | some td,some dd,some v => convK cx.tab td dd (Nat.beq t d) s v fun r s' => k (s'.set o.dst r)
   | _,_,_ => none
 | .makeSlice t l c => match cx.tab t,evalO s.env l,evalO s.env c with
   | some (.slice e _),some (.one (.int _ n)),some (.one (.int _ m)) =>
     bif Nat.blt 0 e.size && inb' m most then (bif inb' n m.toNat then k ((s.new (madeS (cx.mkr t) e n.toNat)).set o.dst (.one (.sl s.next none))) else none) else none
   | _,_,_ => none
 | .slice t x lo hi none => match evalO s.env x,(match lo with | none => some none | some l => (evalO s.env l).map some),(match hi with | none => some none | some h => (evalO s.env h).map some) with
   | some v,some l,some h => match cx.tab t with
     | some td => sliceK td s v l h fun r => k (s.set o.dst r)
     | none => none
   | _,_,_ => none
 | .slice t x none (some hi) (some mx) => match evalO s.env x,evalO s.env hi,evalO s.env mx,cx.tab t with
   | some v,some h,some m,some td => slice3K td v h m fun r => k (s.set o.dst r)
   | _,_,_,_ => none
 | .fieldAddr t x f => match cx.tab t,evalO s.env x with
   | some td,some v => fieldAddrK td v f fun r => k (s.set o.dst r)
   | _,_ => none
 | .field t x f => match cx.tab t,evalO s.env x with
   | some td,some v => fieldK td v f fun r => k (s.set o.dst r)
   | _,_ => none
 | .indexAddr t x i => match cx.tab t,evalO s.env x,evalO s.env i with
   | some td,some v,some j => indexAddrK td s v j fun r => k (s.set o.dst r)
   | _,_,_ => none
 | .index t x i => match cx.tab t,evalO s.env x,evalO s.env i with
   | some (.leaf (.str _)),some (.one (.str a)),some (.one (.int _ j)) => bif inb j a.length then (nth a j.toNat).bind fun b => k (s.set o.dst (.one (.int .u8 b.toNat))) else none
   | some (.arr e n agg _),some (.agg cs),some (.one (.int _ j)) => arrK e n agg cs j fun r => k (s.set o.dst r)
   | _,_,_ => none
 | .extract x i => match evalO s.env x with
   | some v => extractK v i fun r => k (s.set o.dst r)
   | none => none
 | .makeMap t none => match cx.tab t with
   | some (.map kt vt agg) => k ((s.new (madeM (cx.mkr t) kt vt agg)).set o.dst (.one (.mp s.next)))
   | _ => none
 | .lookup t x i ok => match cx.tab t,evalO s.env x,evalO s.env i with
   | some td,some v,some j => lookupS td s v j ok fun r s' => k (s'.set o.dst r)
   | _,_,_ => none
 | .mapUpdate t x i y | .insert t x i y => match cx.tab t,evalO s.env x,evalO s.env i,evalO s.env y with
   | some td,some v,some j,some u => updateS td s v j u fun s' => k (s'.set o.dst (.one .undef))
   | _,_,_,_ => none
 | .makeFunc (.func f) a b => match (evalAll s.env a.toList).bind leafIds,(evalAll s.env b.toList).bind leafIds with
   | some x,some y => k (s.set o.dst (.one (.fn f x y)))
   | _,_ => none
 | .call c => match c.callee with
   | .builtin .len => match c.args.toList,c.argTypes.toList with
     | [x],t :: _ => match cx.tab t,evalO s.env x with
       | some td,some (.one v) => match lenMpK td s v with
         | some n => k (s.set o.dst (.one (.int .i64 n)))
         | none => match lenOf td s v with
           | some n => k (s.set o.dst (.one (.int .i64 n)))
           | none => none
       | _,_ => none
     | _,_ => none
   | .builtin .append => match c.args.toList,c.argTypes.toList with
     | [x,y],[t,t'] => bif Nat.beq t t' then match cx.tab t,evalO s.env x,evalO s.env y with
       | some (.slice e _),some v,some u => bif Nat.blt 0 e.size then appendK e s v u fun r s' => k (s'.set o.dst r) else none
       | _,_,_ => none
       else none
     | _,_ => none
   | .builtin .clear => match c.args.toList,c.argTypes.toList with
     | [x],[t] => match cx.tab t,evalO s.env x with
       | some (.slice (.int kd) _),some (.one (.sl id p)) => spliceK s id (.int kd) p (List.replicate (partLen s id p) (0:Int)) fun s' => k (s'.set o.dst (.one .undef))
       | _,_ => none
     | _,_ => none
   | .builtin .delete => match c.args.toList,c.argTypes.toList with
     | [x,y],t :: _ => match cx.tab t,evalO s.env x,evalO s.env y with
       | some td,some v,some u => deleteK td s v u fun s' => k (s'.set o.dst (.one .undef))
       | _,_,_ => none
     | _,_ => none
   | .builtin .copy => match c.args.toList,c.argTypes.toList with
     | [x,y],t :: _ => match cx.tab t,evalO s.env x,evalO s.env y with
       | some (.slice e _),some (.one (.sl id p)),some u => bif Nat.blt 0 e.size then (match srcK e s u with
         | some b => spliceK s id e p (b.take (partLen s id p)) fun s' => k (s'.set o.dst (.one (.int .i64 (min b.length (partLen s id p):Nat))))
         | none => none) else none
       | _,_,_ => none
     | _,_ => none
   | .builtin .max => match evalAll s.env c.args.toList with
     | some (.one (.int j a) :: vs) => maxK (fun r => k (s.set o.dst r)) j a vs
     | _ => none
   | .builtin .min => match evalAll s.env c.args.toList with
     | some (.one (.int j a) :: vs) => minK (fun r => k (s.set o.dst r)) j a vs
     | _ => none
   | .value f => match evalO s.env f,evalAll s.env c.args.toList with
     | some v,some vs => callK cx v vs s fun r s' => k (s'.set o.dst r)
     | _,_ => none
   | .invoke x name => match evalO s.env x,evalAll s.env c.args.toList with
     | some v,some vs => invokeK cx name v vs s fun r s' => k (s'.set o.dst r)
     | _,_ => none
   | _ => none
 | .makeInterface t x => match cx.tab t,evalO s.env x with
   | some (.leaf (.int j _)),some (.one (.int j' n)) => k (s.set o.dst (.one (.ifi t j' n)))
   | some (.leaf .nilp),some (.one (.ptr id off)) => k (s.set o.dst (.one (.ifp t id off)))
   | _,_ => none
 | .typeAssert x _ t false => match cx.tab t,evalO s.env x with
   | some (.leaf (.int j _)),some (.one (.ifi t' j' n)) => bif Nat.beq t' t then k (s.set o.dst (.one (.int j' n))) else none
   | _,_ => none
 | _ => none
def guardK (b want:Bool) (d:Nat) (dst:Option Nat) (s:St) (yes no:St → Option R):Option R :=
 match b,want with
 | true,true => yes (s.set (some d) (.one (.bool true)))
 | false,false => yes (s.set (some d) (.one (.bool false)))
 | true,false => no ((s.set (some d) (.one (.bool true))).set dst .skip)
 | false,true => no ((s.set (some d) (.one (.bool false))).set dst .skip)
def evOps (cx:Cx) (all:List Oper):List Oper → St → (St → Option R) → Option R
 | [],s,k => k s
 | o :: r,s,k => match o.guard with
   | none => stepK cx o s fun s' => evOps cx all r s' k
   | some (j,want) => match (nth all j).bind (·.dst) with
     | some d => match look s.env d with
       | some (.one (.bool b)) => bif b
          then guardK true want d o.dst s (fun s => stepK cx o s fun s' => evOps cx all r s' k) (fun s => evOps cx all r s k)
          else guardK false want d o.dst s (fun s => stepK cx o s fun s' => evOps cx all r s' k) (fun s => evOps cx all r s k)
       | some .skip => evOps cx all r (s.set o.dst .skip) k
       | _ => none
     | none => none
def evOp1 (cx:Cx) (all:List Oper) (o:Oper) (s:St) (k:St → Option R):Option R:=match o.guard with
 | none => stepK cx o s k
 | some (j,want) => match (nth all j).bind (·.dst) with
   | some d => match look s.env d with
     | some (.one (.bool b)) => bif b then guardK true want d o.dst s (fun s => stepK cx o s k) k else guardK false want d o.dst s (fun s => stepK cx o s k) k
     | some .skip => k (s.set o.dst .skip)
     | _ => none
   | none => none
def stableOp (o:Oper) (s:St):Bool:=match o.op with
 | .move _ | .assign _ | .pick _ _ _ | .binOp _ _ _ _ _ | .unOp _ _ _ | .field _ _ _ | .fieldAddr _ _ _ | .extract _ _ | .nilCheck _ | .index _ _ _ | .indexAddr _ _ _ | .build _ _ => true
 | .slice _ _ _ _ none => true
 | .convert _ _ x => match evalO s.env x with
   | some (.one (.int _ _)) => true
   | _ => false
 | .makeFunc (.func _) _ _ => true
 | .load _ a => match evalO s.env a with
   | some (.one (.ptr id _)) => s.held id
   | some (.one (.eptr id _ _)) => s.held id || (match look s.heap id with
     | some (.frz _ _) => true
     | _ => false)
   | some (.one (.vptr _ _ _)) => true
   | _ => false
 | .lookup _ a _ _ => match evalO s.env a with
   | some (.one (.mp id)) => s.held id
   | _ => false
 | .call c => match c.callee with
   | .builtin .len => match c.args.toList with
     | [x] => match evalO s.env x with
       | some (.one (.mp _)) => false
       | _ => true
     | _ => true
   | .builtin .max | .builtin .min => true
   | _ => false
 | _ => false
def stepT (cx:Cx) (o:Oper) (s:St) (k:St → Option R):Option R:=bif stableOp o s then stepK cx o s k else none
def evOpT (cx:Cx) (all:List Oper) (o:Oper) (s:St) (k:St → Option R):Option R:=match o.guard with
 | none => stepT cx o s k
 | some (j,want) => match (nth all j).bind (·.dst) with
   | some d => match look s.env d with
     | some (.one (.bool b)) => bif b then guardK true want d o.dst s (fun s => stepT cx o s k) k else guardK false want d o.dst s (fun s => stepT cx o s k) k
     | some .skip => k (s.set o.dst .skip)
     | _ => none
   | none => none
noncomputable def agree (x y:Option R):Option R:=by classical exact if x = y then x else none
theorem agree_some {x y:Option R} {r:R} (h:agree x y = some r):x = some r ∧ y = some r:=by
 unfold agree at h
 split at h
 · rename_i e; exact ⟨h,e ▸ h⟩
 · cases h
theorem agree_self (x:Option R):agree x x = x:=by unfold agree; rw [if_pos rfl]
noncomputable def agN:Nat → Option R → Option R
 | 0,x => x
 | n + 1,x => agree x (agN n x)
theorem agN_eq:∀ (n:Nat) (x:Option R),agN n x = x
 | 0,_ => rfl
 | n + 1,x => by rw [agN,agN_eq n x,agree_self]
def keysOf:List (Nat × SObj) → List Nat
 | [] => []
 | (id,_) :: r => id :: keysOf r
def rowsFree (s:St):Bool:=(keysOf s.heap).all fun id => match look s.heap id with
 | some (.rows _ _ _) => !s.held id
 | some (.mrows _ _ _ _) => !s.held id
 | _ => true
noncomputable def evOrd (cx:Cx) (all:List Oper):OrdT → St → (St → Option R) → Option R
 | .done,s,k => k s
 | .take i t,s,k => match nth all i with
   | some o => evOpT cx all o s (fun s' => evOrd cx all t s' k)
   | none => none
 | .only i t,s,k => match nth all i with
   | some o => bif rowsFree s then evOp1 cx all o s (fun s' => evOrd cx all t s' k) else none
   | none => none
 | .alt i t r,s,k => match nth all i with
   | some o => bif rowsFree s then agree (evOp1 cx all o s (fun s' => evOrd cx all t s' k)) (evOrd cx all r s k) else none
   | none => none
def optId:List (Option Nat) → List Nat
 | [] => []
 | some id :: r => id :: optId r
 | none :: r => optId r
def leafObjs:Leaf → List Nat
 | .ptr id _ | .eptr id _ _ | .sl id _ | .ifp _ id _ | .mp id => [id]
 | .fn _ a b => optId a ++ optId b
 | _ => []
def leavesObjs:List Leaf → List Nat
 | [] => []
 | l :: r => leafObjs l ++ leavesObjs r
def svalObjs:SVal → List Nat
 | .one l => leafObjs l
 | .agg ls => leavesObjs ls
 | _ => []
def objObjs:Option SObj → List Nat
 | some (.box ls) => leavesObjs ls
 | some (.cells ls) => leavesObjs ls
 | some (.zip _ _ ls _) => leavesObjs ls
 | _ => []
def slotObjs (env:List (Nat × SVal)):List Nat → List Nat
 | [] => []
 | t :: r => (match look env t with
   | some v => svalObjs v
   | none => []) ++ slotObjs env r
def reach (hp:List (Nat × SObj)):Nat → List Nat → List Nat
 | 0,l => l
 | n + 1,l => l ++ reach hp n (l.flatMap fun id => objObjs (look hp id))
def without (x:List Nat):List Nat → List Nat
 | [] => []
 | id :: r => bif has x id then without x r else id :: without x r
def holdAll (slots:List Nat) (s:St):St:={ s with hold:=without (reach s.heap 3 (slotObjs s.env slots)) (keysOf s.heap) }
noncomputable def evDraw (cx:Cx) (slots:List Nat) (t:OrdT) (ops:List Oper) (s:St) (k:St → Option R):Option R :=
 evOrd cx ops t (holdAll slots s) fun s' => k { s' with hold:=[] }
def inSt (slots:List Nat) (T:Tm) (ds:List Dyn):St:={ env:=slots.zip (T.vals ds),heap:=T.heap ds,next:=T.objs.length,hold:=[] }
def keepEnv (env:List (Nat × SVal)):List Nat → List (Nat × SVal)
 | [] => []
 | t :: r => match look env t with
   | some v => (t,v) :: keepEnv env r
   | none => keepEnv env r
def afterSt (T:Tm) (ρ:Rho) (keep slots:List Nat) (T':Tm) (ds:List Dyn) (s:St):St :=
 { backSt T ρ T' ds s with env:=slots.zip (backVals T ρ T' ds s) ++ keepEnv s.env keep }
def leaveBlk (T:Tm) (ρ:Rho) (keep:List Nat) (s:St):(l:List (Ex × List Nat × Tm)) → (exitsT l).denote → (Ex → St → Option R) → Option R
 | [],_,_ => none
 | [(e,slots,T')],y,k => k e (afterSt T ρ keep slots T' (fromD T'.cts y) s)
 | (e,slots,T') :: b :: r,y,k => match y with
   | .inl a => k e (afterSt T ρ keep slots T' (fromD T'.cts a) s)
   | .inr c => leaveBlk T ρ keep s (b :: r) c k
def enterBlk (cx:Cx) (κ:Nat) (s:St) (k:Ex → St → Option R):Option R :=
 match lookAll s.env (cx.bk κ).slots with
 | some vs => match packIn (cx.bk κ).ins vs s with
   | some (d,ρ,s1) => (cx.rb κ d).bind fun y => leaveBlk (cx.bk κ).ins ρ (cx.bk κ).keep s1 (cx.bk κ).exits y k
   | none => none
 | none => none
def rngList (cx:Cx) (s:St) (g:Operand):Option ((e:CT) × List e.denote × Bool) :=
 match evalO s.env g with
 | some (.one (.fn f [] [some id])) => match cx.it f with
   | some (e,agg) => match look s.heap id with
     | some (.box [.list e' l]) => if e' = e then some ⟨e',l,agg⟩ else none
     | _ => none
   | none => none
 | _ => none
def rngSet (ps:List Nat) (i:Int) (u:SVal) (env:List (Nat × SVal)):Option (List (Nat × SVal)):=match ps with
 | [p,q] => bif Nat.beq p q then none else some ((q,u) :: (p,.one (.int .i64 i)) :: env)
 | _ => none
def enterRng (cx:Cx) (κ:Nat) (g:Operand) (ps:List Nat) (s:St) (k:Ex → St → Option R):Option R :=
 match rngList cx s g with
 | some ⟨e,l,agg⟩ => bif Nat.ble l.length most then (bif Nat.beq l.length 0 then k .norm s else (nth l (l.length - 1)).bind fun x => match asVal agg (unpackL e x) with
   | some u => match rngSet ps ((l.length - 1:Nat):Int) u s.env with
     | some env => match lookAll env (cx.bk κ).slots with
       | some vs => match packIn (cx.bk κ).ins vs s with
         | some (d,ρ,s1) => (cx.rb κ d).bind fun y => leaveBlk (cx.bk κ).ins ρ (cx.bk κ).keep s1 (cx.bk κ).exits y k
         | none => none
       | none => none
     | none => none
   | none => none) else none
 | none => none
def firstRegion:Code → Option Nat
 | .region id _ _ => some id
 | .seq a b => firstRegion a
 | .block _ c => firstRegion c
 | .loop c => firstRegion c
 | _ => none
def loopU (body:St → (Ex → St → Option R) → Option R):Nat → St → (Ex → St → Option R) → Option R
 | 0,_,_ => none
 | n + 1,s,k => body s fun e s' => match e with
   | .norm => loopU body n s' k
   | .out id => k (.out id) s'
   | .ret => k .ret s'
noncomputable def ev (cx:Cx) (H:Hn):Code → St → (Ex → St → Option R) → Option R
 | .skip,s,k => k .norm s
 | .region _ ops false,s,k => evOps cx ops.toList ops.toList s (k .norm)
 | .region id ops true,s,k => match H.dk id with
   | some (slots,t) => evDraw cx slots t ops.toList s (k .norm)
   | none => none
 | .seq a b,s,k => ev cx H a s fun e s' => match e with
   | .norm => match (firstRegion b).bind H.tk with
     | some κ => enterBlk cx κ s' k
     | none => ev cx H b s' k
   | .out id => k (.out id) s'
   | .ret => k .ret s'
 | .cond c a b,s,k => match evalO s.env c with
   | some (.one (.bool t)) => bif t then ev cx H a s k else ev cx H b s k
   | some (.one .anyb) => agree (ev cx H a s k) (ev cx H b s k)
   | _ => none
 | .block id c,s,k => match H.lk id with
   | some κ => match c with
     | .rangeFunc g ps _ _ => enterRng cx κ g ps.toList s k
     | _ => enterBlk cx κ s k
   | none => ev cx H c s fun e s' => match e with
     | .out id' => bif Nat.beq id' id then k .norm s' else k (.out id') s'
     | .norm => k .norm s'
     | .ret => k .ret s'
 | .loop c,s,k => loopU (ev cx H c) 16 s k
 | .exit id,s,k => k (.out id) s
 | .ret,s,k => k .ret s
 | _,_,_ => none
def packExit (ρ0:Rho):(l:List (Ex × List Nat × Tm)) → Ex → St → Option (exitsT l).denote
 | [],_,_ => none
 | [(e,slots,T)],e',s => if e = e' then
     match lookAll s.env slots with
     | some vs => match packD T ρ0 vs s with
       | some (d,_,_) => some d
       | none => none
     | none => none
   else none
 | (e,slots,T) :: b :: r,e',s => match (if e = e' then
     match lookAll s.env slots with
     | some vs => packD T ρ0 vs s
     | none => none
   else none) with
   | some (d,_,_) => some (.inl d)
   | none => match packExit ρ0 (b :: r) e' s with
     | some d => some (.inr d)
     | none => none
inductive BCode where
 | loop (id:Nat) (body:Code)
 | tail (c:Code)
 | range (g:Operand) (ps:List Nat) (assign body:Code)
def nextRng (cx:Cx) (κ:Nat) (g:Operand) (ps:List Nat) (s:St):Option (exitsT (cx.bk κ).exits).denote :=
 match rngList cx s g with
 | some ⟨e,l,agg⟩ => match ps with
   | p :: _ => match look s.env p with
     | some (.one (.int .i64 i)) => bif i == 0 then packExit (stayRho 0 (cx.bk κ).ins.objs) (cx.bk κ).exits .norm s else (nth l (i - 1).toNat).bind fun x => match asVal agg (unpackL e x) with
       | some u => match rngSet ps (i - 1) u s.env with
         | some env => match lookAll env (cx.bk κ).slots with
           | some vs => match packD (cx.bk κ).ins (stayRho 0 (cx.bk κ).ins.objs) vs s with
             | some (d,_,_) => cx.rb κ d
             | none => none
           | none => none
         | none => none
       | none => none
     | _ => none
   | [] => none
 | none => none
noncomputable def evBlk (cx:Cx) (H:Hn) (κ:Nat) (c:BCode) (d:(cx.bk κ).ins.ct.denote):Option (exitsT (cx.bk κ).exits).denote :=
 match c with
 | .tail c => ev cx H c (inSt (cx.bk κ).slots (cx.bk κ).ins (fromD (cx.bk κ).ins.cts d)) fun e s => packExit (stayRho 0 (cx.bk κ).ins.objs) (cx.bk κ).exits e s
 | .loop id c => ev cx H c (inSt (cx.bk κ).slots (cx.bk κ).ins (fromD (cx.bk κ).ins.cts d)) fun e s => match e with
   | .norm => match lookAll s.env (cx.bk κ).slots with
     | some vs => match packD (cx.bk κ).ins (stayRho 0 (cx.bk κ).ins.objs) vs s with
       | some (d,_,_) => cx.rb κ d
       | none => match H.al κ with
         | some κ2 => enterBlk cx κ2 s fun e' s' => packExit (stayRho 0 (cx.bk κ).ins.objs) (cx.bk κ).exits e' s'
         | none => none
     | none => none
   | .out id' => bif Nat.beq id' id then packExit (stayRho 0 (cx.bk κ).ins.objs) (cx.bk κ).exits .norm s else packExit (stayRho 0 (cx.bk κ).ins.objs) (cx.bk κ).exits (.out id') s
   | .ret => packExit (stayRho 0 (cx.bk κ).ins.objs) (cx.bk κ).exits .ret s
 | .range g ps assign body => ev cx H assign (inSt (cx.bk κ).slots (cx.bk κ).ins (fromD (cx.bk κ).ins.cts d)) fun e s => match e with
   | .norm => match body with
     | .block id _ => match H.lk id with
       | some κ2 => enterBlk cx κ2 s fun e s => match e with
         | .norm => nextRng cx κ g ps s
         | .ret => packExit (stayRho 0 (cx.bk κ).ins.objs) (cx.bk κ).exits .ret s
         | .out _ => none
       | none => none
     | _ => none
   | _ => none
def resultOf (cx:Cx) (s:St):ResultVar → Option SVal
 | .tmp t => look s.env t
 | .cell a t => match cx.tab t,look s.env a with
   | some td,some v => loadK s td v some
   | _,_ => none
def resultsOf (cx:Cx) (s:St):List ResultVar → Option (List SVal)
 | [] => some []
 | r :: rs => match resultOf cx s r,resultsOf cx s rs with
   | some x,some y => some (x :: y)
   | _,_ => none
def packOut (ρ0:Rho):(l:List Tm) → List SVal → St → Option (outsT l).denote
 | [],_,_ => none
 | [T],vs,s => match packD T ρ0 vs s with
   | some (d,_,_) => some d
   | none => none
 | T :: b :: r,vs,s => match packD T ρ0 vs s with
   | some (d,_,_) => some (.inl d)
   | none => match packOut ρ0 (b :: r) vs s with
     | some d => some (.inr d)
     | none => none
noncomputable def evFn (cx:Cx) (H:Hn) (φ:Nat) (c:Code) (rs:List ResultVar) (d:(cx.kin φ).ct.denote):Option (outsT (cx.kouts φ)).denote :=
 ev cx H c (inSt (List.range (cx.kin φ).slots.length) (cx.kin φ) (fromD (cx.kin φ).cts d)) fun e s =>
  match e with
  | .out _ => none
  | _ => match resultsOf cx s rs with
    | some vs => packOut (stayRho 0 (cx.kin φ).objs) (cx.kouts φ) vs s
    | none => none
end Go.Bm
end
section
namespace Go.Bm
set_option linter.unusedVariables false
def cellsAt (w:World) (b o:Nat):List Value → Prop
 | [] => True
 | v :: vs => w.cell? ⟨b,o,none⟩ = some v ∧ cellsAt w b (o + 1) vs
def VC (w:World) (Φ:Nat → Prop):(t:CT) → t.denote → List Value → Prop
 | .unit,_,vs => vs = []
 | .int k,x,vs => vs = [.int k x]
 | .bool,x,vs => vs = [.bool x]
 | .str,x,vs => ∃ s:ByteArray,vs = [.string s] ∧ s.data.toList = x
 | .list e,l,vs => ∃ a cap,vs = [.slice a l.length cap] ∧ l.length ≤ cap ∧ (l = [] ∨ ∃ b o,a = some ⟨b,o,none⟩ ∧ Φ b ∧ ∀ i x,nth l i = some x → ∃ us,cellsAt w b (o + i * e.size) us ∧ VC w Φ e x us)
 | .prod a r,x,vs => ∃ v vs',vs = v :: vs' ∧ VC w Φ a x.1 [v] ∧ VC w Φ r x.2 vs'
 | .sum _ _,_,_ => False
 | .any _,_,vs => ∃ v,vs = [v] ∧ v.oneCell' = true
theorem cellsAt_of_heap {w w':World} {b:Nat} (h:w'.heap[b]? = w.heap[b]?):∀ (vs:List Value) (o:Nat),cellsAt w b o vs → cellsAt w' b o vs
 | [],_,_ => trivial
 | v :: vs,o,⟨h1,h2⟩ => ⟨by rw [World.cell?_of_block (w:=w) h]; exact h1,cellsAt_of_heap h vs (o + 1) h2⟩
theorem VC_mono {w w':World} {Φ Φ':Nat → Prop} (h:∀ b,Φ b → w'.heap[b]? = w.heap[b]?) (hΦ:∀ b,Φ b → Φ' b) :
  ∀ (t:CT) (x:t.denote) (vs:List Value),VC w Φ t x vs → VC w' Φ' t x vs
 | .unit,_,_,hv => hv
 | .int _,_,_,hv => hv
 | .bool,_,_,hv => hv
 | .str,_,_,hv => hv
 | .list e,l,vs,hv => by
   obtain ⟨a,cap,h1,h2,h3⟩:=hv
   refine ⟨a,cap,h1,h2,?_⟩
   rcases h3 with h3 | ⟨b,o,ha,hb,hc⟩
   · exact .inl h3
   · refine .inr ⟨b,o,ha,hΦ b hb,fun i x hx => ?_⟩
     obtain ⟨us,hu,hvc⟩:=hc i x hx
     exact ⟨us,cellsAt_of_heap (h b hb) us _ hu,VC_mono h hΦ e x us hvc⟩
 | .prod a r,x,vs,⟨v,vs',e1,e2,e3⟩ => ⟨v,vs',e1,VC_mono h hΦ a x.1 [v] e2,VC_mono h hΦ r x.2 vs' e3⟩
 | .sum _ _,_,_,hv => hv
 | .any _,_,_,hv => hv
theorem VC_len {w:World} {Φ:Nat → Prop}:∀ (t:CT) (x:t.denote) (vs:List Value),VC w Φ t x vs → vs.length = t.size
 | .unit,_,_,hv => by cases hv; rfl
 | .int _,_,_,hv => by cases hv; rfl
 | .bool,_,_,hv => by cases hv; rfl
 | .str,_,_,⟨s,hv,_⟩ => by cases hv; rfl
 | .list e,l,vs,⟨a,cap,h1,_⟩ => by cases h1; rfl
 | .prod a r,x,vs,⟨v,vs',e1,e2,e3⟩ => by subst e1; simp [CT.size,VC_len r x.2 vs' e3]; omega
 | .sum _ _,_,_,hv => hv.elim
 | .any _,_,_,⟨v,hv,_⟩ => by cases hv; rfl
def blockSize (w:World) (b:Nat):Nat :=
 match w.heap[b]? with
 | some (.cells c _ _) => c.size
 | _ => 0
def Fz (w:World) (b:Nat):Prop:=∃ c t f,w.heap[b]? = some (.cells c t f) ∧ (f.1 = f.2 ∨ c.size ≤ f.1)
theorem Fz.of_block {w w':World} {b:Nat} (hb:w'.heap[b]? = w.heap[b]?) (h:Fz w b):Fz w' b:=by
 obtain ⟨c,t,f,h1,h2⟩:=h
 exact ⟨c,t,f,hb.trans h1,h2⟩
theorem Fz.no {w:World} {b i:Nat} {u:Value} (h:Fz w b) (hc:w.cell? ⟨b,i,none⟩ = some u):w.frozen? ⟨b,i,none⟩ = false:=by
 obtain ⟨c,t,f,hb,h⟩:=h
 unfold World.cell? at hc
 unfold World.frozen?
 simp only [hb] at hc ⊢
 have hi:i < c.size:=by
  rcases Nat.lt_or_ge i c.size with g | g
  · exact g
  · simp [Array.getElem?_eq_none g] at hc
 obtain ⟨lo,hi2⟩:=f
 simp only at h ⊢
 simp only [Bool.and_eq_false_iff,decide_eq_false_iff_not]
 omega
def SlR (w:World) (loc:Option (Nat × Nat)) (sz n:Nat) (r:Option (Nat × Nat)) (v:Value):Prop :=
 match loc with
 | none => (∃ a,v = .slice a 0 0) ∧ n = 0 ∧ (r.getD (0,n)).2 = 0
 | some (b,o) => ∃ o' cap,v = .slice (some ⟨b,o',none⟩) (r.getD (0,n)).2 cap ∧ (r.getD (0,n)).2 ≤ cap ∧ (o' = o + (r.getD (0,n)).1 * sz ∨ cap = 0) ∧
    (r.getD (0,n)).1 + (r.getD (0,n)).2 ≤ n ∧ (o' + cap * sz = blockSize w b ∨ cap = 0) ∧ (r = none → o' = o ∧ o + cap * sz = blockSize w b ∧ 0 < sz)
abbrev Loc:=Nat → Option (Option (Nat × Nat))
def IdR (β:Loc):Option Nat → Value → Prop
 | none,v => v = .pointer none
 | some id,v => ∃ b,β id = some (some (b,0)) ∧ v = .pointer (some ⟨b,0,none⟩)
def IdsR (β:Loc):List (Option Nat) → List Value → Prop
 | [],vs => vs = []
 | x :: r,vs => ∃ v vs',vs = v :: vs' ∧ IdR β x v ∧ IdsR β r vs'
def LfR (w:World) (Φ:Nat → Prop) (β:Loc) (hp:List (Nat × SObj)):Leaf → Value → Prop
 | .undef,_ => True
 | .int k x,v => v = .int k x
 | .bool b,v => v = .bool b
 | .str x,v => ∃ s:ByteArray,v = .string s ∧ s.data.toList = x
 | .list e l,v => VC w Φ (.list e) l [v]
 | .clist e l,v => VC w Φ (.list e) l [v] ∧ ∃ a,v = .slice a l.length l.length
 | .nils,v => v = .slice none 0 0
 | .ptr id off,v => ∃ b,β id = some (some (b,0)) ∧ v = .pointer (some ⟨b,off,none⟩)
 | .eptr id i off,v => ∃ loc,β id = some loc ∧ (∃ p:Addr,v = .pointer (some p)) ∧ ∀ sz n,rowOf (look hp id) = some (sz,n) → ∃ b o,loc = some (b,o) ∧ v = .pointer (some ⟨b,o + i * sz + off,none⟩)
 | .vptr e x off,v => ∃ b o us,Φ b ∧ cellsAt w b o us ∧ VC w Φ e x us ∧ v = .pointer (some ⟨b,o + off,none⟩)
 | .sl id r,v => ∃ loc,β id = some loc ∧ (∃ a l c,v = .slice a l c) ∧ ∀ sz n,rowOf (look hp id) = some (sz,n) → SlR w loc sz n r v
 | .fn f xs ys,v => ∃ us vs,v = .func (.func f) us vs ∧ IdsR β xs us.toList ∧ IdsR β ys vs.toList
 | .ifp t id off,v => ∃ b,β id = some (some (b,0)) ∧ v = .iface t (.pointer (some ⟨b,off,none⟩))
 | .ifi t k x,v => v = .iface t (.int k x)
 | .mp id,v => ∃ b,β id = some (some (b,0)) ∧ v = .map (some b)
 | .nilp,v => v = .pointer none
 | .nilf,v => v = .nilFunc
 | .nili,v => v = .nilIface
 | .nilm,v => v = .map none
 | .anyb,v => ∃ b,v = .bool b
def LfRs (w:World) (Φ:Nat → Prop) (β:Loc) (hp:List (Nat × SObj)):List Leaf → List Value → Prop
 | [],vs => vs = []
 | l :: ls,vs => ∃ v vs',vs = v :: vs' ∧ LfR w Φ β hp l v ∧ LfRs w Φ β hp ls vs'
def PartR (w:World) (Φ:Nat → Prop) (β:Loc) (hp:List (Nat × SObj)) (p:List Leaf × Bool) (v:Value):Prop :=
 if p.2 then ∃ vs,v = .agg vs ∧ LfRs w Φ β hp p.1 vs.toList else LfRs w Φ β hp p.1 [v]
def PartsR (w:World) (Φ:Nat → Prop) (β:Loc) (hp:List (Nat × SObj)):List (List Leaf × Bool) → List Value → Prop
 | [],vs => vs = []
 | l :: ls,vs => ∃ v vs',vs = v :: vs' ∧ PartR w Φ β hp l v ∧ PartsR w Φ β hp ls vs'
def SVR (w:World) (Φ:Nat → Prop) (β:Loc) (hp:List (Nat × SObj)):SVal → Value → Prop
 | .one l,v => LfR w Φ β hp l v
 | .agg cs,v => ∃ vs,v = .agg vs ∧ LfRs w Φ β hp cs vs.toList
 | .tup ps,v => ∃ vs,v = .tuple vs ∧ PartsR w Φ β hp ps vs.toList
 | .skip,v => v = undef
def RowAt (w:World) (Φ:Nat → Prop) (e:CT) (b o:Nat) (l:List e.denote):Prop :=
 ∀ i x,nth l i = some x → ∃ us,cellsAt w b (o + i * e.size) us ∧ VC w Φ e x us
def valOf (agg:Bool) (vs:List Value):Value:=if agg then .agg vs.toArray else vs.headD undef
def EntR (w:World) (Φ:Nat → Prop) (k v:CT) (agg:Bool):List (k.denote × v.denote) → List MapEntry → Prop
 | [],es => es = []
 | x :: r,es => ∃ e es',es = e :: es' ∧ VC w Φ k x.1 [e.key] ∧ (∃ vs,VC w Φ v x.2 vs ∧ e.val = valOf agg vs) ∧ EntR w Φ k v agg r es'
theorem EntR_mono {w w':World} {Φ Φ':Nat → Prop} (h:∀ b,Φ b → w'.heap[b]? = w.heap[b]?) (hΦ:∀ b,Φ b → Φ' b) {k v:CT} {agg:Bool}:∀ (l:List (k.denote × v.denote)) (es:List MapEntry),EntR w Φ k v agg l es → EntR w' Φ' k v agg l es
 | [],_,h => h
 | x :: r,_,⟨e,es',e1,e2,⟨vs,e3,e4⟩,e5⟩ => ⟨e,es',e1,VC_mono h hΦ _ _ _ e2,⟨vs,VC_mono h hΦ _ _ _ e3,e4⟩,EntR_mono h hΦ r es' e5⟩
def BornOk (es:List MapEntry) (clock:Nat):Prop:=(∀ e ∈ es,e.born < clock) ∧ es.Pairwise (fun a b => a.born ≠ b.born)
def PtB (v:Value) (c:Nat):Prop:=∃ o n cap,v = .slice (some ⟨c,o,none⟩) n cap ∧ 0 < cap
def RowV (w:World) (Φ:Nat → Prop) (e:CT) (v:Value) (row:List e.denote):Prop :=
 ((∃ z,v = .slice z 0 0) ∧ row = []) ∨ ∃ c o cap,v = .slice (some ⟨c,o,none⟩) row.length cap ∧ 0 < cap ∧ row.length ≤ cap ∧ o + cap * e.size = blockSize w c ∧ 0 < e.size ∧ ¬ Φ c ∧ Fz w c ∧ RowAt w Φ e c o row
structure RowsV (w:World) (Φ:Nat → Prop) (e:CT) (hs:List Value) (rows:List (List e.denote)) (g:Option Nat):Prop where
 len:hs.length = rows.length
 row:∀ i v r,hs[i]? = some v → rows[i]? = some r → g ≠ some i → RowV w Φ e v r
 dis:∀ i j v v' c,hs[i]? = some v → hs[j]? = some v' → g ≠ some i → g ≠ some j → PtB v c → PtB v' c → i = j
def HdR (w:World) (β:Loc) (id:Nat):SObj → List Value → Option Nat → Prop
 | .rows e l g,hs,g' => g' = g ∧ hs.length = l.length ∧ ∃ b o,β id = some (some (b,o)) ∧ cellsAt w b o hs
 | .mrows k e l g,hs,g' => g' = g ∧ ∃ b es clock,β id = some (some (b,0)) ∧ w.heap[b]? = some (.map es clock) ∧ hs = es.toList.map (·.val)
 | _,_,_ => False
def RowB (w:World) (β:Loc) (id:Nat) (o:SObj) (c:Nat):Prop:=∃ hs g,HdR w β id o hs g ∧ ∃ i v,hs[i]? = some v ∧ g ≠ some i ∧ PtB v c
def SObj.isRows:SObj → Bool
 | .rows _ _ _ => true
 | .mrows _ _ _ _ => true
 | _ => false
theorem RowB_none {w:World} {β:Loc} {id:Nat} {o:SObj} {c:Nat} (h:o.isRows = false):¬ RowB w β id o c:=by
 rintro ⟨hs,g,h1,_⟩
 cases o <;> first | exact h1.elim | cases h
theorem cellsAt_fun:∀ {w:World} {us vs:List Value} {b o:Nat},cellsAt w b o us → cellsAt w b o vs → us.length = vs.length → us = vs
 | _,[],[],_,_,_,_,_ => rfl
 | _,[],_ :: _,_,_,_,_,h => by simp at h
 | _,_ :: _,[],_,_,_,_,h => by simp at h
 | _,u :: us,v :: vs,b,o,⟨h1,h2⟩,⟨k1,k2⟩,h => by
   rw [h1] at k1; cases k1
   rw [cellsAt_fun h2 k2 (by simpa using h)]
theorem HdR_of {w w':World} {β β':Loc} {id id':Nat} {o:SObj} {hs:List Value} {g:Option Nat} (hβ:β' id' = β id) (hb:∀ b p,β id = some (some (b,p)) → w'.heap[b]? = w.heap[b]?) (h:HdR w' β' id' o hs g):HdR w β id o hs g:=by
 cases o with
 | rows e l g0 =>
   obtain ⟨h1,h2,b,o,h3,h4⟩:=h
   rw [hβ] at h3
   exact ⟨h1,h2,b,o,h3,cellsAt_of_heap (hb b o h3).symm _ _ h4⟩
 | mrows k e l g0 =>
   obtain ⟨h1,b,es,cl,h3,h4,h5⟩:=h
   rw [hβ] at h3
   exact ⟨h1,b,es,cl,h3,by rw [← hb b 0 h3]; exact h4,h5⟩
 | _ => exact h.elim
theorem RowB_of {w w':World} {β β':Loc} {id id':Nat} {o:SObj} {c:Nat} (hβ:β' id' = β id) (hb:∀ b p,β id = some (some (b,p)) → w'.heap[b]? = w.heap[b]?) (h:RowB w' β' id' o c):RowB w β id o c:=by
 obtain ⟨hs,g,h1,h2⟩:=h
 exact ⟨hs,g,HdR_of hβ hb h1,h2⟩
def KeysR (w:World) (Φ:Nat → Prop) (k:CT):List k.denote → List MapEntry → Prop
 | [],es => es = []
 | x :: r,es => ∃ e es',es = e :: es' ∧ VC w Φ k x [e.key] ∧ KeysR w Φ k r es'
theorem KeysR_mono {w w':World} {Φ Φ':Nat → Prop} (h:∀ b,Φ b → w'.heap[b]? = w.heap[b]?) (hΦ:∀ b,Φ b → Φ' b) {k:CT}:∀ (l:List k.denote) (es:List MapEntry),KeysR w Φ k l es → KeysR w' Φ' k l es
 | [],_,h => h
 | x :: r,_,⟨e,es',e1,e2,e5⟩ => ⟨e,es',e1,VC_mono h hΦ _ _ _ e2,KeysR_mono h hΦ r es' e5⟩
def ObR (w:World) (Φ:Nat → Prop) (β:Loc) (hp:List (Nat × SObj)) (id:Nat):SObj → Prop
 | .dead => True
 | .box cs => ∃ b vs,β id = some (some (b,0)) ∧ ¬ Φ b ∧ Fz w b ∧ cellsAt w b 0 vs ∧ LfRs w Φ β hp cs vs
 | .cells cs => ∃ b vs,β id = some (some (b,0)) ∧ ¬ Φ b ∧ Fz w b ∧ cellsAt w b 0 vs ∧ LfRs w Φ β hp cs vs
 | .arr e l => (β id = some none ∧ l = []) ∨ ∃ b o,β id = some (some (b,o)) ∧ ¬ Φ b ∧ Fz w b ∧ RowAt w Φ e b o l
 | .frz e l => (β id = some none ∧ l = []) ∨ ∃ b o,β id = some (some (b,o)) ∧ Φ b ∧ RowAt w Φ e b o l
 | .map k v agg l => ∃ b es clock,β id = some (some (b,0)) ∧ ¬ Φ b ∧ w.heap[b]? = some (.map es clock) ∧ EntR w Φ k v agg l es.toList ∧ BornOk es.toList clock
 | .zip e l cs m => ∃ b o vs,β id = some (some (b,o)) ∧ ¬ Φ b ∧ Fz w b ∧ RowAt w Φ e b o l ∧ cellsAt w b (o + l.length * e.size) vs ∧ LfRs w Φ β hp cs vs ∧ vs.length = e.size ∧ RowAt w Φ e b (o + (l.length + 1) * e.size) m
 | .rows e l g => ∃ b o hs,β id = some (some (b,o)) ∧ ¬ Φ b ∧ Fz w b ∧ cellsAt w b o hs ∧ RowsV w Φ e hs l g
 | .mrows k e l g => ∃ b es clock,β id = some (some (b,0)) ∧ ¬ Φ b ∧ w.heap[b]? = some (.map es clock) ∧ KeysR w Φ k (l.map (·.1)) es.toList ∧ BornOk es.toList clock ∧ RowsV w Φ e (es.toList.map (·.val)) (l.map (·.2)) g
def SObj.owned:SObj → Bool
 | .box _ => true
 | .cells _ => true
 | .arr _ _ => true
 | .map _ _ _ _ => true
 | .rows _ _ _ => true
 | .mrows _ _ _ _ => true
 | .zip _ _ _ _ => true
 | _ => false
structure Same (w0:World) (own:Nat → Prop) (w:World):Prop where
 os:w.os = w0.os
 tape:w.tape = w0.tape
 output:w.output = w0.output
 size:w0.heap.size ≤ w.heap.size
 block:∀ b,b < w0.heap.size → ¬ own b → w.heap[b]? = w0.heap[b]?
structure HpR (w:World) (Φ:Nat → Prop) (β:Loc) (s:St):Prop where
 ob:∀ id o,look s.heap id = some o → ObR w Φ β s.heap id o
 lt:∀ id x,β id = some x → id < s.next
 hlt:∀ id o,look s.heap id = some o → id < s.next
 inj:∀ id id' o o' b p p',look s.heap id = some o → look s.heap id' = some o' → o.owned = true → o'.owned = true → β id = some (some (b,p)) → β id' = some (some (b,p')) → id = id'
 blt:∀ id b p,β id = some (some (b,p)) → b < w.heap.size
 flt:∀ b,Φ b → b < w.heap.size
 rin:∀ id o c,look s.heap id = some o → RowB w β id o c → ¬ Φ c ∧ c < w.heap.size ∧ ∀ id' o' p,look s.heap id' = some o' → o'.owned = true → β id' ≠ some (some (c,p))
 rinj:∀ id id' o o' c,look s.heap id = some o → look s.heap id' = some o' → RowB w β id o c → RowB w β id' o' c → id = id'
def DefR (B:Nat) (w:World) (Φ:Nat → Prop) (l:List Deferred):Prop:=l.Nodup ∧ ∀ m ∈ l,∃ d,m = { target:=.collected d,args:=#[] } ∧ B ≤ d ∧ w.heap[d]? = some (.deferred (some [])) ∧ ¬ Φ d
theorem DefR.nil (B:Nat) (w:World) (Φ:Nat → Prop):DefR B w Φ []:=⟨List.nodup_nil,fun _ h => by cases h⟩
theorem DefR.mono {B:Nat} {w w':World} {Φ Φ':Nat → Prop} {l:List Deferred} (h:DefR B w Φ l) (k:∀ d,w.heap[d]? = some (.deferred (some [])) → ¬ Φ d → w'.heap[d]? = w.heap[d]? ∧ ¬ Φ' d):DefR B w' Φ' l :=
 ⟨h.1,fun m hm => by
  obtain ⟨d,h1,h0,h2,h3⟩:=h.2 m hm
  obtain ⟨k1,k2⟩:=k d h2 h3
  exact ⟨d,h1,h0,k1.trans h2,k2⟩⟩
def offData:Obj → Bool
 | .cells _ _ _ => false
 | .map _ _ => false
 | _ => true
theorem ObR.off {w:World} {Φ:Nat → Prop} {β:Loc} {hp:List (Nat × SObj)} {id b p:Nat} {o:SObj} {x:Obj} (hx:offData x = true) (h:ObR w Φ β hp id o) (ho:o.owned = true) (hb:β id = some (some (b,p))):w.heap[b]? ≠ some x:=by
 have cl:∀ {b' q:Nat},β id = some (some (b',q)) → Fz w b' → w.heap[b]? ≠ some x:=fun h1 h2 e => by
  rw [h1] at hb
  cases hb
  obtain ⟨c,t,f,h3,_⟩:=h2
  rw [h3] at e; cases e; cases hx
 have mp:∀ {b' q:Nat} {es:Array MapEntry} {k:Nat},β id = some (some (b',q)) → w.heap[b']? = some (.map es k) → w.heap[b]? ≠ some x:=fun h1 h2 e => by
  rw [h1] at hb
  cases hb
  rw [h2] at e; cases e; cases hx
 cases o with
 | dead => cases ho
 | frz _ _ => cases ho
 | box cs => obtain ⟨b',vs,h1,_,h3,_⟩:=h; exact cl h1 h3
 | cells cs => obtain ⟨b',vs,h1,_,h3,_⟩:=h; exact cl h1 h3
 | arr e l =>
   rcases h with ⟨h1,_⟩ | ⟨b',q,h1,_,h3,_⟩
   · rw [h1] at hb; cases hb
   · exact cl h1 h3
 | map k v agg l => obtain ⟨b',es,clock,h1,_,h3,_⟩:=h; exact mp h1 h3
 | zip e l cs m => obtain ⟨b',q,vs,h1,_,h3,_⟩:=h; exact cl h1 h3
 | rows e l g => obtain ⟨b',q,hs,h1,_,h3,_⟩:=h; exact cl h1 h3
 | mrows k e l g => obtain ⟨b',es,clock,h1,_,h3,_⟩:=h; exact mp h1 h3
theorem ObR.kind {w:World} {Φ:Nat → Prop} {β:Loc} {hp:List (Nat × SObj)} {id b p:Nat} {o:SObj} {x:Option (List Deferred)} (h:ObR w Φ β hp id o) (ho:o.owned = true) (hb:β id = some (some (b,p))):w.heap[b]? ≠ some (.deferred x):=h.off rfl ho hb
theorem RowB.off {w:World} {Φ:Nat → Prop} {β:Loc} {hp:List (Nat × SObj)} {id c:Nat} {o:SObj} {x:Obj} (hx:offData x = true) (h:ObR w Φ β hp id o) (hc:RowB w β id o c):w.heap[c]? ≠ some x:=by
 obtain ⟨hs,g,hd,i,v,h1,h2,h3⟩:=hc
 have fin:∀ {e:CT} {r:List e.denote},RowV w Φ e v r → w.heap[c]? ≠ some x:=fun hv e => by
  obtain ⟨o',n',cap',rfl,hcap⟩:=h3
  rcases hv with ⟨⟨z,hz⟩,_⟩ | ⟨c',o2,cap2,hz,_,_,_,_,_,hf,_⟩
  · cases hz; omega
  · cases hz
    obtain ⟨q1,q2,q3,q4,_⟩:=hf
    rw [q4] at e; cases e; cases hx
 cases o with
 | rows e l g' =>
   obtain ⟨rfl,hl,b,q,k1,k2⟩:=hd
   obtain ⟨b',q',hs',j1,_,_,j2,j3⟩:=h
   rw [k1] at j1
   cases j1
   obtain rfl:=cellsAt_fun k2 j2 (by rw [hl,j3.len])
   have hi:i < l.length:=by rw [← hl]; exact (List.getElem?_eq_some_iff.1 h1).1
   exact fin (j3.row i v l[i] h1 (List.getElem?_eq_getElem hi) h2)
 | mrows k e l g' =>
   obtain ⟨rfl,b,es,clock,k1,k2,rfl⟩:=hd
   obtain ⟨b',es',clock',j1,_,j2,_,_,j3⟩:=h
   rw [k1] at j1
   cases j1
   rw [k2] at j2
   cases j2
   have hi:i < (l.map (·.2)).length:=by rw [← j3.len]; exact (List.getElem?_eq_some_iff.1 h1).1
   exact fin (j3.row i v (l.map (·.2))[i] h1 (List.getElem?_eq_getElem hi) h2)
 | _ => exact hd.elim
theorem RowB.kind {w:World} {Φ:Nat → Prop} {β:Loc} {hp:List (Nat × SObj)} {id c:Nat} {o:SObj} {x:Option (List Deferred)} (h:ObR w Φ β hp id o) (hc:RowB w β id o c):w.heap[c]? ≠ some (.deferred x):=RowB.off rfl h hc
def GrdR (G:List (Nat × Obj)) (w:World) (Φ:Nat → Prop):Prop:=∀ x ∈ G,w.heap[x.1]? = some x.2 ∧ offData x.2 = true ∧ ¬ Φ x.1
def DgR (B:Nat) (G:List (Nat × Obj)) (w:World) (Φ:Nat → Prop) (l:List Deferred):Prop:=DefR B w Φ l ∧ GrdR G w Φ
theorem DgR.mono {B:Nat} {G:List (Nat × Obj)} {w w':World} {Φ Φ':Nat → Prop} {l:List Deferred} (h:DgR B G w Φ l) (k:∀ d o,offData o = true → w.heap[d]? = some o → ¬ Φ d → w'.heap[d]? = w.heap[d]? ∧ ¬ Φ' d):DgR B G w' Φ' l :=
 ⟨h.1.mono fun d h1 h2 => k d _ rfl h1 h2,fun x hx => by
  obtain ⟨h1,h2,h3⟩:=h.2 x hx
  obtain ⟨k1,k2⟩:=k x.1 x.2 h2 h1 h3
  exact ⟨k1.trans h1,h2,k2⟩⟩
structure Kept (w:World) (β:Loc) (hp:List (Nat × SObj)) (w':World) (β':Loc) (hp':List (Nat × SObj)) (id:Nat):Prop where
 loc:∀ x,β id = some x → β' id = some x
 row:∀ x,β id = some x → ∀ r,rowOf (look hp' id) = some r → rowOf (look hp id) = some r
 bs:∀ b o r,β id = some (some (b,o)) → rowOf (look hp' id) = some r → blockSize w' b = blockSize w b
theorem Kept.refl (w:World) (β:Loc) (hp:List (Nat × SObj)) (id:Nat):Kept w β hp w β hp id:=⟨fun _ h => h,fun _ _ _ h => h,fun _ _ _ _ _ => rfl⟩
structure Frm where
 n:Nat
 fix:Nat → Option Value
 held:Nat → Option (Nat × Nat) → Prop
 kid:Nat → Prop
 kw:World
 kβ:Loc
 kh:List (Nat × SObj)
 mlo:Nat
 grd:List (Nat × Obj)
def Frm.ok (N:Frm) (d:Nat):Prop:=d < N.n ∧ N.fix d = none
structure Rel (w0:World) (Φ0:Nat → Prop) (own0:Nat → Prop) (N:Frm) (w:World) (Φ:Nat → Prop) (β:Loc) (s:St) (a:Act):Prop where
 env:∀ t v,look s.env t = some v → SVR w Φ β s.heap v (a.tmps.getD t undef)
 hp:HpR w Φ β s
 own:∀ id o b p,look s.heap id = some o → o.owned = true → β id = some (some (b,p)) → own0 b ∨ w0.heap.size ≤ b ∨ ∃ p,N.held id (some (b,p))
 same:Same w0 own0 w
 fri:∀ b,Φ0 b → Φ b
 fro:∀ b,Φ b → Φ0 b ∨ own0 b ∨ w0.heap.size ≤ b
 size:a.tmps.size = N.n
 fix:∀ t v,N.fix t = some v → a.tmps.getD t undef = v
 defers:DgR N.mlo N.grd w Φ a.defers
 hold:∀ id x,N.held id x → s.held id = true ∧ β id = some x
 keep:∀ id,N.kid id → Kept N.kw N.kβ N.kh w β s.heap id
 rown:∀ id o c,look s.heap id = some o → RowB w β id o c → own0 c ∨ w0.heap.size ≤ c
def GpMono (gp:World → (Nat → Prop) → Prop):Prop:=∀ (w w':World) (Φ Φ':Nat → Prop),(∀ b,Φ b → w'.heap[b]? = w.heap[b]?) → (∀ b,Φ b → Φ' b) → gp w Φ → gp w' Φ'
class GlobR (gp:World → (Nat → Prop) → Prop) (w0:World) (Φ0 own0:Nat → Prop):Prop where
 mono:GpMono gp
 at0:gp w0 Φ0
 out:∀ b,Φ0 b → ¬ own0 b ∧ b < w0.heap.size
theorem GlobR.get {gp:World → (Nat → Prop) → Prop} {w0:World} {Φ0 own0:Nat → Prop} {N:Frm} {w:World} {Φ:Nat → Prop} {β:Loc} {s:St} {a:Act} (hG:GlobR gp w0 Φ0 own0) (hr:Rel w0 Φ0 own0 N w Φ β s a):gp w Φ :=
 hG.mono _ _ _ _ (fun b hb => hr.same.block b (hG.out b hb).2 (hG.out b hb).1) hr.fri hG.at0
def GvR (gv:Nat → Option Dyn) (w:World) (Φ:Nat → Prop):Prop:=∀ g d,gv g = some d → Φ g ∧ ∃ us,cellsAt w g 0 us ∧ VC w Φ d.t d.x us
theorem GvR.none {w:World} {Φ:Nat → Prop} {gv:Nat → Option Dyn} (h:∀ g,gv g = .none):GvR gv w Φ:=fun g d hg => by rw [h] at hg; cases hg
theorem gOp_sound {gv:Nat → Option Dyn} {w:World} {Φ:Nat → Prop} {β:Loc} {hp:List (Nat × SObj)} {a:Act} {x:Operand} {u:SVal} (hg:GvR gv w Φ) (h:gOp gv x = some u):SVR w Φ β hp u (a.eval x):=by
 cases x <;> simp only [gOp,reduceCtorEq] at h
 rename_i g
 split at h
 case h_2 => cases h
 rename_i d hd
 cases h
 obtain ⟨h1,us,h2,h3⟩:=hg g d hd
 exact ⟨g,0,us,h1,h2,h3,rfl⟩
theorem Same.refl (w:World) (own:Nat → Prop):Same w own w:=⟨rfl,rfl,rfl,Nat.le_refl _,fun _ _ _ => rfl⟩
structure Mono (w:World) (Φ:Nat → Prop) (β:Loc) (hp:List (Nat × SObj)) (w':World) (Φ':Nat → Prop) (β':Loc) (hp':List (Nat × SObj)):Prop where
 frz:∀ b,Φ b → w'.heap[b]? = w.heap[b]?
 sub:∀ b,Φ b → Φ' b
 loc:∀ id x,β id = some x → β' id = some x
 row:∀ id x,β id = some x → ∀ r,rowOf (look hp' id) = some r → rowOf (look hp id) = some r
 bs:∀ id b o r,β id = some (some (b,o)) → rowOf (look hp' id) = some r → blockSize w' b = blockSize w b
theorem Mono.kept {w w':World} {Φ Φ':Nat → Prop} {β β':Loc} {hp hp':List (Nat × SObj)} (m:Mono w Φ β hp w' Φ' β' hp') (id:Nat):Kept w β hp w' β' hp' id :=
 ⟨fun x h => m.loc id x h,fun x h r hr => m.row id x h r hr,fun b o r h hr => m.bs id b o r h hr⟩
theorem Kept.trans {w w' w2:World} {β β' β2:Loc} {hp hp' hp2:List (Nat × SObj)} {id:Nat} (h:Kept w β hp w' β' hp' id) (k:Kept w' β' hp' w2 β2 hp2 id):Kept w β hp w2 β2 hp2 id :=
 ⟨fun x hx => k.loc x (h.loc x hx),fun x hx r hr => h.row x hx r (k.row x (h.loc x hx) r hr),fun b o r hb hr => (k.bs b o r (h.loc _ hb) hr).trans (h.bs b o r hb (k.row _ (h.loc _ hb) r hr))⟩
theorem Rel.keep' {w0:World} {Φ0 own0:Nat → Prop} {N:Frm} {w:World} {Φ:Nat → Prop} {β:Loc} {s:St} {a:Act} (h:Rel w0 Φ0 own0 N w Φ β s a) {w':World} {Φ':Nat → Prop} {β':Loc} {hp':List (Nat × SObj)}
 (m:Mono w Φ β s.heap w' Φ' β' hp'):∀ id,N.kid id → Kept N.kw N.kβ N.kh w' β' hp' id:=fun id hid => (h.keep id hid).trans (m.kept id)
section mono
variable {w w':World} {Φ Φ':Nat → Prop} {β β':Loc} {hp hp':List (Nat × SObj)}
theorem IdsR_mono {β β':Loc} (h:∀ id x,β id = some x → β' id = some x):∀ (l:List (Option Nat)) (vs:List Value),IdsR β l vs → IdsR β' l vs
 | [],_,g => g
 | none :: r,_,⟨v,vs',e,g1,g2⟩ => ⟨v,vs',e,g1,IdsR_mono h r vs' g2⟩
 | some id :: r,_,⟨v,vs',e,⟨b,g1,g3⟩,g2⟩ => ⟨v,vs',e,⟨b,h _ _ g1,g3⟩,IdsR_mono h r vs' g2⟩
theorem LfR_mono (m:Mono w Φ β hp w' Φ' β' hp'):∀ (l:Leaf) (v:Value),LfR w Φ β hp l v → LfR w' Φ' β' hp' l v
 | .undef,_,h => h
 | .int _ _,_,h => h
 | .bool _,_,h => h
 | .str _,_,h => h
 | .list e l,v,h => VC_mono m.frz m.sub _ _ _ h
 | .clist e l,v,h => ⟨VC_mono m.frz m.sub _ _ _ h.1,h.2⟩
 | .nils,_,h => h
 | .ptr id off,v,⟨b,h1,h2⟩ => ⟨b,m.loc _ _ h1,h2⟩
 | .eptr id i off,v,⟨loc,h1,hp,h2⟩ => ⟨loc,m.loc _ _ h1,hp,fun sz n hr => h2 sz n (m.row _ _ h1 _ hr)⟩
 | .vptr e x off,v,⟨b,o,us,h1,h2,h3,h4⟩ => ⟨b,o,us,m.sub _ h1,cellsAt_of_heap (m.frz b h1) _ _ h2,VC_mono m.frz m.sub _ _ _ h3,h4⟩
 | .sl id r,v,⟨loc,h1,hs,h2⟩ => ⟨loc,m.loc _ _ h1,hs,fun sz n hr => by
    have:=h2 sz n (m.row _ _ h1 _ hr)
    revert this
    unfold SlR
    cases loc with
    | none => exact fun h => h
    | some bo =>
      obtain ⟨b,o⟩:=bo
      rintro ⟨o',cap,e1,e2,e3,e4,e5,e6⟩
      have hb:=m.bs _ _ _ _ h1 hr
      exact ⟨o',cap,e1,e2,e3,e4,by rw [hb]; exact e5,fun h => by rw [hb]; exact e6 h⟩⟩
 | .fn f xs ys,v,⟨us,vs,h1,h2,h3⟩ => ⟨us,vs,h1,IdsR_mono m.loc _ _ h2,IdsR_mono m.loc _ _ h3⟩
 | .ifp t id off,v,⟨b,h1,h2⟩ => ⟨b,m.loc _ _ h1,h2⟩
 | .ifi _ _ _,_,h => h
 | .mp id,v,⟨b,h1,h2⟩ => ⟨b,m.loc _ _ h1,h2⟩
 | .nilp,_,h => h
 | .nilf,_,h => h
 | .nili,_,h => h
 | .nilm,_,h => h
 | .anyb,_,h => h
theorem LfRs_mono (m:Mono w Φ β hp w' Φ' β' hp'):∀ (l:List Leaf) (v:List Value),LfRs w Φ β hp l v → LfRs w' Φ' β' hp' l v
 | [],_,h => h
 | l :: ls,_,⟨v,vs',e,h1,h2⟩ => ⟨v,vs',e,LfR_mono m l v h1,LfRs_mono m ls vs' h2⟩
theorem PartR_mono (m:Mono w Φ β hp w' Φ' β' hp') (p:List Leaf × Bool) (v:Value) (h:PartR w Φ β hp p v):PartR w' Φ' β' hp' p v:=by
 unfold PartR at *
 split
 · rename_i hb; simp only [hb,if_true] at h; obtain ⟨vs,e,h⟩:=h; exact ⟨vs,e,LfRs_mono m _ _ h⟩
 · rename_i hb; simp only [hb] at h; exact LfRs_mono m _ _ h
theorem PartsR_mono (m:Mono w Φ β hp w' Φ' β' hp'):∀ (l:List (List Leaf × Bool)) (v:List Value),PartsR w Φ β hp l v → PartsR w' Φ' β' hp' l v
 | [],_,h => h
 | l :: ls,_,⟨v,vs',e,h1,h2⟩ => ⟨v,vs',e,PartR_mono m l v h1,PartsR_mono m ls vs' h2⟩
theorem SVR_mono (m:Mono w Φ β hp w' Φ' β' hp') (x:SVal) (v:Value) (h:SVR w Φ β hp x v):SVR w' Φ' β' hp' x v:=by
 cases x with
 | one l => exact LfR_mono m l v h
 | agg cs => obtain ⟨vs,e,h⟩:=h; exact ⟨vs,e,LfRs_mono m _ _ h⟩
 | tup ps => obtain ⟨vs,e,h⟩:=h; exact ⟨vs,e,PartsR_mono m _ _ h⟩
 | skip => exact h
theorem RowAt_mono (m:Mono w Φ β hp w' Φ' β' hp') {e:CT} {b o:Nat} {l:List e.denote} (hb:w'.heap[b]? = w.heap[b]?) (h:RowAt w Φ e b o l):RowAt w' Φ' e b o l:=by
 intro i x hx
 obtain ⟨us,h1,h2⟩:=h i x hx
 exact ⟨us,cellsAt_of_heap hb _ _ h1,VC_mono m.frz m.sub _ _ _ h2⟩
theorem RowV_mono (m:Mono w Φ β hp w' Φ' β' hp') {e:CT} {v:Value} {r:List e.denote} (hc:∀ c,PtB v c → w'.heap[c]? = w.heap[c]? ∧ (¬ Φ c → ¬ Φ' c)) (h:RowV w Φ e v r):RowV w' Φ' e v r:=by
 rcases h with h | ⟨c,o,cap,h1,h2,h3,h4,h5,h6,h7,h8⟩
 · exact .inl h
 · obtain ⟨g1,g2⟩:=hc c ⟨o,_,cap,h1,h2⟩
   exact .inr ⟨c,o,cap,h1,h2,h3,by unfold blockSize; rw [g1]; exact h4,h5,g2 h6,Fz.of_block g1 h7,RowAt_mono m g1 h8⟩
theorem RowsV_mono (m:Mono w Φ β hp w' Φ' β' hp') {e:CT} {hs:List Value} {l:List (List e.denote)} {g:Option Nat} (hc:∀ i v c,hs[i]? = some v → g ≠ some i → PtB v c → w'.heap[c]? = w.heap[c]? ∧ (¬ Φ c → ¬ Φ' c)) (h:RowsV w Φ e hs l g):RowsV w' Φ' e hs l g :=
 ⟨h.len,fun i v r h1 h2 h3 => RowV_mono m (fun c => hc i v c h1 h3) (h.row i v r h1 h2 h3),h.dis⟩
theorem ObR_mono (m:Mono w Φ β hp w' Φ' β' hp') {id:Nat} {o:SObj} (hb:∀ b p,β id = some (some (b,p)) → w'.heap[b]? = w.heap[b]?)
  (hΦ:o.owned = true → ∀ b p,β id = some (some (b,p)) → ¬ Φ b → ¬ Φ' b) (hc:∀ c,RowB w β id o c → w'.heap[c]? = w.heap[c]? ∧ (¬ Φ c → ¬ Φ' c)) (h:ObR w Φ β hp id o):ObR w' Φ' β' hp' id o:=by
 cases o with
 | dead => trivial
 | box cs =>
   obtain ⟨b,vs,h1,h2,h3,h4,h5⟩:=h
   exact ⟨b,vs,m.loc _ _ h1,hΦ rfl b 0 h1 h2,Fz.of_block (hb b 0 h1) h3,cellsAt_of_heap (hb b 0 h1) _ _ h4,LfRs_mono m _ _ h5⟩
 | cells cs =>
   obtain ⟨b,vs,h1,h2,h3,h4,h5⟩:=h
   exact ⟨b,vs,m.loc _ _ h1,hΦ rfl b 0 h1 h2,Fz.of_block (hb b 0 h1) h3,cellsAt_of_heap (hb b 0 h1) _ _ h4,LfRs_mono m _ _ h5⟩
 | arr e l =>
   rcases h with ⟨h1,h2⟩ | ⟨b,o,h1,h2,h3,h4⟩
   · exact .inl ⟨m.loc _ _ h1,h2⟩
   · exact .inr ⟨b,o,m.loc _ _ h1,hΦ rfl b o h1 h2,Fz.of_block (hb b o h1) h3,RowAt_mono m (hb b o h1) h4⟩
 | frz e l =>
   rcases h with ⟨h1,h2⟩ | ⟨b,o,h1,h2,h4⟩
   · exact .inl ⟨m.loc _ _ h1,h2⟩
   · exact .inr ⟨b,o,m.loc _ _ h1,m.sub _ h2,RowAt_mono m (hb b o h1) h4⟩
 | map k v agg l =>
   obtain ⟨b,es,clock,h1,h2,h3,h4,h5⟩:=h
   exact ⟨b,es,clock,m.loc _ _ h1,hΦ rfl b 0 h1 h2,by rw [hb b 0 h1]; exact h3,EntR_mono m.frz m.sub _ _ h4,h5⟩
 | zip e l cs q =>
   obtain ⟨b,o,vs,h1,h2,h3,h4,h5,h6,h7,h8⟩:=h
   exact ⟨b,o,vs,m.loc _ _ h1,hΦ rfl b o h1 h2,Fz.of_block (hb b o h1) h3,RowAt_mono m (hb b o h1) h4,cellsAt_of_heap (hb b o h1) _ _ h5,LfRs_mono m _ _ h6,h7,RowAt_mono m (hb b o h1) h8⟩
 | rows e l g =>
   obtain ⟨b,o,hs,h1,h2,h3,h4,h5⟩:=h
   exact ⟨b,o,hs,m.loc _ _ h1,hΦ rfl b o h1 h2,Fz.of_block (hb b o h1) h3,cellsAt_of_heap (hb b o h1) _ _ h4,
    RowsV_mono m (fun i v c k1 k2 k3 => hc c ⟨hs,g,⟨rfl,h5.len,b,o,h1,h4⟩,i,v,k1,k2,k3⟩) h5⟩
 | mrows k e l g =>
   obtain ⟨b,es,clock,h1,h2,h3,h4,h5,h6⟩:=h
   exact ⟨b,es,clock,m.loc _ _ h1,hΦ rfl b 0 h1 h2,by rw [hb b 0 h1]; exact h3,KeysR_mono m.frz m.sub _ _ h4,h5,
    RowsV_mono m (fun i v c k1 k2 k3 => hc c ⟨_,g,⟨rfl,b,es,clock,h1,h3,rfl⟩,i,v,k1,k2,k3⟩) h6⟩
end mono
theorem look_cons {α:Type} (k n:Nat) (v:α) (r:List (Nat × α)):look ((k,v) :: r) n = if k = n then some v else look r n:=by
 simp only [look]
 by_cases h:k = n
 · subst h; simp [Nat.beq_refl]
 · have:Nat.beq k n = false:=by
    cases hb:Nat.beq k n
    · rfl
    · exact absurd (Nat.eq_of_beq_eq_true hb) h
   simp [this,h]
section
variable {w0:World} {Φ0 own0:Nat → Prop} {N:Frm} {w:World} {Φ:Nat → Prop} {β:Loc} {s:St} {a:Act}
theorem getD_put_same {a:Act} {d:Nat} {v:Value} (h:d < a.tmps.size):(a.put (some d) v).tmps.getD d undef = v:=by
 simp [Act.put,Array.getD,h]
theorem getD_put_other {a:Act} {d t:Nat} {v:Value} (h:d ≠ t):(a.put (some d) v).tmps.getD t undef = a.tmps.getD t undef:=by
 simp only [Act.put,Array.getD_eq_getD_getElem?,Array.getElem?_setIfInBounds_ne h]
theorem size_put {a:Act} {d:Option Nat} {v:Value}:(a.put d v).tmps.size = a.tmps.size:=by
 cases d <;> simp [Act.put]
theorem defers_put {a:Act} {d:Option Nat} {v:Value}:(a.put d v).defers = a.defers:=by
 cases d <;> simp [Act.put]
theorem Rel.set (h:Rel w0 Φ0 own0 N w Φ β s a) {dst:Option Nat} {sv:SVal} {v:Value} (hv:SVR w Φ β s.heap sv v) (hd:∀ d,dst = some d → N.ok d) :
  Rel w0 Φ0 own0 N w Φ β (s.set dst sv) (a.put dst v):=by
 cases dst with
 | none => exact h
 | some d =>
   have hsz:d < a.tmps.size:=by rw [h.size]; exact (hd d rfl).1
   refine ⟨?_,⟨h.hp.ob,h.hp.lt,h.hp.hlt,h.hp.inj,h.hp.blt,h.hp.flt,h.hp.rin,h.hp.rinj⟩,h.own,h.same,h.fri,h.fro,by rw [size_put]; exact h.size,fun t v hv => by rw [getD_put_other (fun e => by subst e; rw [(hd d rfl).2] at hv; cases hv)]; exact h.fix t v hv,by rw [defers_put]; exact h.defers,h.hold,h.keep,h.rown⟩
   intro t u hu
   simp only [St.set,look_cons] at hu
   split at hu
   · rename_i e; subst e; cases hu; rw [getD_put_same hsz]; exact hv
   · rename_i e; rw [getD_put_other e]; exact h.env t u hu
theorem Rel.drew (h:Rel w0 Φ0 own0 N w Φ β s a):Rel w0 Φ0 own0 N w.drew Φ β s a:=by
 have m:Mono w Φ β s.heap w.drew Φ β s.heap:=⟨fun _ _ => rfl,fun _ h => h,fun _ _ h => h,fun _ _ _ _ h => h,fun _ _ _ _ _ _ => rfl⟩
 have hb:∀ {id:Nat} {o:SObj} {c:Nat},RowB w.drew β id o c → RowB w β id o c:=fun h => RowB_of (w:=w) (w':=w.drew) rfl (fun _ _ _ => rfl) h
 exact ⟨fun t v hv => SVR_mono m _ _ (h.env t v hv),⟨fun id o ho => ObR_mono m (fun _ _ _ => rfl) (fun _ _ _ _ h => h) (fun _ _ => ⟨rfl,fun h => h⟩) (h.hp.ob id o ho),h.hp.lt,h.hp.hlt,h.hp.inj,h.hp.blt,h.hp.flt,
   fun id o c ho hc => h.hp.rin id o c ho (hb hc),fun id id' o o' c ho ho' hc hc' => h.hp.rinj id id' o o' c ho ho' (hb hc) (hb hc')⟩,h.own,
  ⟨h.same.os,h.same.tape,h.same.output,h.same.size,h.same.block⟩,h.fri,h.fro,h.size,h.fix,h.defers.mono (fun _ _ _ _ h2 => ⟨rfl,h2⟩),h.hold,h.keep' m,fun id o c ho hc => h.rown id o c ho (hb hc)⟩
def Loc.at (β:Loc) (id:Nat) (x:Option (Nat × Nat)):Loc:=fun j => if j = id then some x else β j
theorem heap_alloc_lt (w:World) (o:Obj) {b:Nat} (h:b < w.heap.size):(w.alloc o).heap[b]? = w.heap[b]?:=by
 show (w.heap.push o)[b]? = _; rw [Array.getElem?_push,if_neg (by omega)]
theorem heap_alloc_new (w:World) (o:Obj):(w.alloc o).heap[w.heap.size]? = some o:=by
 show (w.heap.push o)[w.heap.size]? = _; rw [Array.getElem?_push,if_pos rfl]
theorem Same.alloc (h:Same w0 own0 w) (o:Obj):Same w0 own0 (w.alloc o) :=
 ⟨h.os,h.tape,h.output,by simp; have:=h.size; omega,fun b hb hn => by rw [heap_alloc_lt w o (by have:=h.size; omega)]; exact h.block b hb hn⟩
theorem HpR.none_next (h:HpR w Φ β s):β s.next = none:=by
 cases e:β s.next with
 | none => rfl
 | some x => exact absurd (h.lt _ _ e) (by omega)
theorem HpR.look_next (h:HpR w Φ β s):look s.heap s.next = none:=by
 cases e:look s.heap s.next with
 | none => rfl
 | some x => exact absurd (h.hlt _ _ e) (by omega)
theorem mono_alloc (h:HpR w Φ β s) (o:Obj) (so:SObj) (x:Option (Nat × Nat)):Mono w Φ β s.heap (w.alloc o) Φ (β.at s.next x) (s.new so).heap:=by
 refine ⟨fun b hb => heap_alloc_lt w o (h.flt b hb),fun _ h => h,?_,?_,?_⟩
 · intro id y hy
   have:id ≠ s.next:=fun e => by subst e; rw [h.none_next] at hy; cases hy
   simp [Loc.at,this,hy]
 · intro id y hy r hr
   have:s.next ≠ id:=fun e => by subst e; rw [h.none_next] at hy; cases hy
   simpa [St.new,look_cons,this] using hr
 · intro id b p r hb hr
   have:=h.blt _ _ _ hb
   unfold blockSize; rw [heap_alloc_lt w o this]
theorem Rel.new (h:Rel w0 Φ0 own0 N w Φ β s a) (o:Obj) (so:SObj) (p:Nat) (hrow:∀ c,¬ RowB (w.alloc o) (β.at s.next (some (w.heap.size,p))) s.next so c)
  (ho:ObR (w.alloc o) Φ (β.at s.next (some (w.heap.size,p))) (s.new so).heap s.next so) :
  Rel w0 Φ0 own0 N (w.alloc o) Φ (β.at s.next (some (w.heap.size,p))) (s.new so) a:=by
 have m:=mono_alloc h.hp o so (some (w.heap.size,p))
 have hat:∀ id,id ≠ s.next → (β.at s.next (some (w.heap.size,p))) id = β id:=fun id e => by simp [Loc.at,e]
 have hnew:(β.at s.next (some (w.heap.size,p))) s.next = some (some (w.heap.size,p)):=by simp [Loc.at]
 have hlk:∀ id ob,look (s.new so).heap id = some ob → (id = s.next ∧ ob = so) ∨ (id ≠ s.next ∧ look s.heap id = some ob):=by
  intro id ob hl
  simp only [St.new,look_cons] at hl
  split at hl
  · rename_i e; exact .inl ⟨e.symm,by cases hl; rfl⟩
  · rename_i e; exact .inr ⟨fun e' => e e'.symm,hl⟩
 have hrb:∀ id ob c,id ≠ s.next → RowB (w.alloc o) (β.at s.next (some (w.heap.size,p))) id ob c → RowB w β id ob c:=fun id ob c hne hc =>
  RowB_of (w:=w) (hat id hne) (fun b q hb => heap_alloc_lt w o (h.hp.blt _ _ _ hb)) hc
 have hrl:∀ id ob c,look (s.new so).heap id = some ob → RowB (w.alloc o) (β.at s.next (some (w.heap.size,p))) id ob c → id ≠ s.next ∧ look s.heap id = some ob ∧ RowB w β id ob c:=by
  intro id ob c hl hc
  rcases hlk id ob hl with ⟨rfl,rfl⟩ | ⟨hne,hl⟩
  · exact absurd hc (hrow c)
  · exact ⟨hne,hl,hrb id ob c hne hc⟩
 refine ⟨fun t v hv => SVR_mono m _ _ (h.env t v hv),⟨?_,?_,?_,?_,?_,?_,?_,?_⟩,?_,h.same.alloc o,h.fri,h.fro,h.size,h.fix,h.defers.mono (fun d _ _ h1 h2 => ⟨heap_alloc_lt w o (Array.getElem?_eq_some_iff.1 h1).1,h2⟩),fun id x hx => ⟨(h.hold id x hx).1,by rw [hat id (fun e => by have:=h.hp.lt id x (h.hold id x hx).2; omega)]; exact (h.hold id x hx).2⟩,h.keep' m,?_⟩
 · intro id ob hl
   rcases hlk id ob hl with ⟨rfl,rfl⟩ | ⟨hne,hl⟩
   · exact ho
   · exact ObR_mono m (fun b q hb => heap_alloc_lt w o (h.hp.blt _ _ _ hb)) (fun _ _ _ _ h => h) (fun c hc => ⟨heap_alloc_lt w o (h.hp.rin id ob c hl hc).2.1,fun h => h⟩) (h.hp.ob id ob hl)
 · intro id x hx
   by_cases e:id = s.next
   · subst e; simp [St.new]
   · rw [hat id e] at hx; have:=h.hp.lt id x hx; simp [St.new]; omega
 · intro id ob hl
   rcases hlk id ob hl with ⟨rfl,rfl⟩ | ⟨hne,hl⟩
   · simp [St.new]
   · have:=h.hp.hlt id ob hl; simp [St.new]; omega
 · intro id id' ob ob' b q q' hl hl' ho1 ho2 hb hb'
   rcases hlk id ob hl with ⟨rfl,rfl⟩ | ⟨hne,hl⟩ <;> rcases hlk id' ob' hl' with ⟨rfl,rfl⟩ | ⟨hne',hl'⟩
   · rfl
   · rw [hnew] at hb; cases hb
     rw [hat id' hne'] at hb'; exact absurd (h.hp.blt _ _ _ hb') (by omega)
   · rw [hnew] at hb'; cases hb'
     rw [hat id hne] at hb; exact absurd (h.hp.blt _ _ _ hb) (by omega)
   · rw [hat id hne] at hb; rw [hat id' hne'] at hb'; exact h.hp.inj id id' ob ob' b q q' hl hl' ho1 ho2 hb hb'
 · intro id b q hb
   by_cases e:id = s.next
   · subst e; rw [hnew] at hb; cases hb; simp
   · rw [hat id e] at hb; have:=h.hp.blt id b q hb; simp; omega
 · intro b hb; have:=h.hp.flt b hb; simp; omega
 · intro id ob c hl hc
   obtain ⟨hne,hl,hc⟩:=hrl id ob c hl hc
   obtain ⟨g1,g2,g3⟩:=h.hp.rin id ob c hl hc
   refine ⟨g1,by simp; omega,fun id' ob' q hl' ho' hb => ?_⟩
   rcases hlk id' ob' hl' with ⟨rfl,rfl⟩ | ⟨hne',hl'⟩
   · rw [hnew] at hb; cases hb; omega
   · rw [hat id' hne'] at hb; exact g3 id' ob' q hl' ho' hb
 · intro id id' ob ob' c hl hl' hc hc'
   obtain ⟨_,hl,hc⟩:=hrl id ob c hl hc
   obtain ⟨_,hl',hc'⟩:=hrl id' ob' c hl' hc'
   exact h.hp.rinj id id' ob ob' c hl hl' hc hc'
 · intro id ob b q hl ho1 hb
   rcases hlk id ob hl with ⟨rfl,rfl⟩ | ⟨hne,hl⟩
   · rw [hnew] at hb; cases hb; exact .inr (.inl h.same.size)
   · rw [hat id hne] at hb; exact h.own id ob b q hl ho1 hb
 · intro id ob c hl hc
   obtain ⟨_,hl,hc⟩:=hrl id ob c hl hc
   exact h.rown id ob c hl hc
theorem Rel.mine (h:Rel w0 Φ0 own0 N w Φ β s a) {id b p:Nat} {o:SObj} (hh:s.held id = false) (hl:look s.heap id = some o) (ho:o.owned = true) (hb:β id = some (some (b,p))):own0 b ∨ w0.heap.size ≤ b:=by
 rcases h.own id o b p hl ho hb with h2 | h2 | h2
 · exact .inl h2
 · exact .inr h2
 · obtain ⟨q,h2⟩:=h2; rw [(h.hold _ _ h2).1] at hh; cases hh
theorem Rel.turn (h:Rel w0 Φ0 own0 N w Φ β s a) {id:Nat} {o o':SObj} (hnr:o.isRows = false) (hnr':o'.isRows = false) (hl:look s.heap id = some o) (how:o.owned = true ∨ o'.owned = false) (hh:s.held id = false) (w':World) (Φ':Nat → Prop)
  (hs:Same w0 own0 w') (hsz:w'.heap.size = w.heap.size)
  (hΦ:∀ b,Φ b → Φ' b) (hΦ':∀ b,Φ' b → Φ b ∨ (o.owned = true ∧ o'.owned = false ∧ ∃ p,β id = some (some (b,p))))
  (hbk:∀ b,b < w.heap.size → (o.owned = true → ∀ p,β id ≠ some (some (b,p))) → w'.heap[b]? = w.heap[b]?)
  (hΦb:∀ b,Φ b → w'.heap[b]? = w.heap[b]?)
  (hbs:∀ b,b < w.heap.size → blockSize w' b = blockSize w b)
  (hrow:rowOf (some o') = rowOf (some o) ∨ rowOf (some o') = none)
  (hob:ObR w' Φ' β (s.put id o').heap id o'):Rel w0 Φ0 own0 N w' Φ' β (s.put id o') a:=by
 have hlk:∀ j ob,look (s.put id o').heap j = some ob → (j = id ∧ ob = o') ∨ (j ≠ id ∧ look s.heap j = some ob):=by
  intro j ob hj
  simp only [St.put,look_cons] at hj
  split at hj
  · rename_i e; exact .inl ⟨e.symm,by cases hj; rfl⟩
  · rename_i e; exact .inr ⟨fun e' => e e'.symm,hj⟩
 have m:Mono w Φ β s.heap w' Φ' β (s.put id o').heap:=by
  refine ⟨hΦb,hΦ,fun _ _ h => h,?_,?_⟩
  · intro j x hx r hr
    simp only [St.put,look_cons] at hr
    split at hr
    · rename_i e; subst e; rw [hl]
      rcases hrow with e | e
      · rw [← e]; exact hr
      · rw [e] at hr; cases hr
    · exact hr
  · intro j b p r hb hr
    rw [hbs b (h.hp.blt _ _ _ hb)]
 have hrc:∀ j ob c,look s.heap j = some ob → RowB w β j ob c → w'.heap[c]? = w.heap[c]? ∧ (¬ Φ c → ¬ Φ' c):=by
  intro j ob c hj hc
  obtain ⟨g1,g2,g3⟩:=h.hp.rin j ob c hj hc
  refine ⟨hbk c g2 (fun h1 p => g3 id o p hl h1),fun hn hn' => ?_⟩
  rcases hΦ' c hn' with k | ⟨k1,_,p,k2⟩
  · exact hn k
  · exact g3 id o p hl k1 k2
 have hrl:∀ j ob c,look (s.put id o').heap j = some ob → RowB w' β j ob c → j ≠ id ∧ look s.heap j = some ob ∧ RowB w β j ob c:=by
  intro j ob c hj hc
  rcases hlk j ob hj with ⟨rfl,rfl⟩ | ⟨hne,hj⟩
  · exact absurd hc (RowB_none hnr')
  · cases hir:ob.isRows with
    | false => exact absurd hc (RowB_none hir)
    | true =>
      have hown:ob.owned = true:=by cases ob <;> first | rfl | cases hir
      exact ⟨hne,hj,RowB_of (w:=w) rfl (fun b p hb => hbk b (h.hp.blt _ _ _ hb) (fun h1 q hq => hne (h.hp.inj j id ob o b p q hj hl hown h1 hb hq))) hc⟩
 refine ⟨fun t v hv => SVR_mono m _ _ (h.env t v hv),⟨?_,h.hp.lt,?_,?_,?_,?_,?_,?_⟩,?_,hs,fun b hb => hΦ b (h.fri b hb),?_,h.size,h.fix,h.defers.mono (fun d q hq h1 h2 => ⟨hbk d (Array.getElem?_eq_some_iff.1 h1).1 (fun ho p hb => ObR.off hq (h.hp.ob id o hl) ho hb h1),fun h3 => by
  rcases hΦ' d h3 with k | ⟨k1,_,p,k2⟩
  · exact h2 k
  · exact ObR.off hq (h.hp.ob id o hl) k1 k2 h1⟩),h.hold,h.keep' m,?_⟩
 · intro j ob hj
   rcases hlk j ob hj with ⟨rfl,rfl⟩ | ⟨hne,hj⟩
   · exact hob
   ·
    have hother:o.owned = true → ob.owned = true → ∀ b p q,β j = some (some (b,p)) → β id ≠ some (some (b,q)):=by
     intro h1 h2 b p q hb hq
     exact hne (h.hp.inj j id ob o b p q hj hl h2 h1 hb hq)
    cases hown:ob.owned with
    | true =>
      refine ObR_mono m ?_ ?_ (fun c hc => hrc j ob c hj hc) (h.hp.ob j ob hj)
      · intro b p hb
        exact hbk b (h.hp.blt _ _ _ hb) (fun h1 q hq => hother h1 hown b p q hb hq)
      · intro _ b p hb hn hn'
        rcases hΦ' b hn' with h1 | ⟨h1,_,q,hq⟩
        · exact hn h1
        · exact hother h1 hown b p q hb hq
    | false =>
      cases ob with
      | dead => trivial
      | box cs => cases hown
      | cells cs => cases hown
      | arr e l => cases hown
      | map _ _ _ _ => cases hown
      | rows _ _ _ => cases hown
      | mrows _ _ _ _ => cases hown
      | zip _ _ _ _ => cases hown
      | frz e l =>
        rcases h.hp.ob j _ hj with ⟨h1,h2⟩ | ⟨b,p,h1,h2,h4⟩
        · exact .inl ⟨h1,h2⟩
        · exact .inr ⟨b,p,h1,hΦ b h2,RowAt_mono m (hΦb b h2) h4⟩
 · intro j ob hj
   rcases hlk j ob hj with ⟨rfl,rfl⟩ | ⟨hne,hj⟩
   · exact h.hp.hlt _ _ hl
   · exact h.hp.hlt _ _ hj
 · intro j j' ob ob' b q q' hj hj' ho1 ho2 hb hb'
   have fix:∀ j ob,look (s.put id o').heap j = some ob → ob.owned = true → ∃ ob2,look s.heap j = some ob2 ∧ ob2.owned = true:=by
    intro j ob hj ho
    rcases hlk j ob hj with ⟨rfl,rfl⟩ | ⟨hne,hj⟩
    · rcases how with h1 | h1
      · exact ⟨o,hl,h1⟩
      · rw [h1] at ho; cases ho
    · exact ⟨ob,hj,ho⟩
   obtain ⟨x,hx1,hx2⟩:=fix j ob hj ho1
   obtain ⟨y,hy1,hy2⟩:=fix j' ob' hj' ho2
   exact h.hp.inj j j' x y b q q' hx1 hy1 hx2 hy2 hb hb'
 · intro j b q hb; rw [hsz]; exact h.hp.blt j b q hb
 · intro b hb
   rw [hsz]
   rcases hΦ' b hb with h1 | ⟨_,_,p,hp⟩
   · exact h.hp.flt b h1
   · exact h.hp.blt _ _ _ hp
 · intro j ob c hj hc
   obtain ⟨_,hj,hc⟩:=hrl j ob c hj hc
   obtain ⟨g1,g2,g3⟩:=h.hp.rin j ob c hj hc
   refine ⟨(hrc j ob c hj hc).2 g1,by rw [hsz]; exact g2,fun j' ob' p hj' ho' hb => ?_⟩
   rcases hlk j' ob' hj' with ⟨rfl,rfl⟩ | ⟨_,hj'⟩
   · rcases how with k | k
     · exact g3 _ o p hl k hb
     · rw [k] at ho'; cases ho'
   · exact g3 j' ob' p hj' ho' hb
 · intro j j' ob ob' c hj hj' hc hc'
   obtain ⟨_,hj,hc⟩:=hrl j ob c hj hc
   obtain ⟨_,hj',hc'⟩:=hrl j' ob' c hj' hc'
   exact h.hp.rinj j j' ob ob' c hj hj' hc hc'
 · intro j ob b q hj ho hb
   rcases hlk j ob hj with ⟨rfl,rfl⟩ | ⟨hne,hj⟩
   · rcases how with h1 | h1
     · exact h.own _ o b q hl h1 hb
     · rw [h1] at ho; cases ho
   · exact h.own j ob b q hj ho hb
 · intro b hb
   rcases hΦ' b hb with h1 | ⟨h1,_,p,hp⟩
   · exact h.fro b h1
   · rcases h.own id o b p hl h1 hp with h2 | h2 | h2
     · exact .inr (.inl h2)
     · exact .inr (.inr h2)
     · obtain ⟨q,h2⟩:=h2; rw [(h.hold _ _ h2).1] at hh; cases hh
 · intro j ob c hj hc
   obtain ⟨_,hj,hc⟩:=hrl j ob c hj hc
   exact h.rown j ob c hj hc
end
def CoR:Leaf → Value → Prop
 | .int k x,v => v = .int k x
 | .bool b,v => v = .bool b
 | .str x,v => ∃ s:ByteArray,v = .string s ∧ s.data.toList = x
 | .nils,v => v = .slice none 0 0
 | .nilp,v => v = .pointer none
 | .nilf,v => v = .nilFunc
 | .nili,v => v = .nilIface
 | .nilm,v => v = .map none
 | .undef,_ => True
 | _,_ => False
def CoRs:List Leaf → List Value → Prop
 | [],vs => vs = []
 | l :: ls,vs => ∃ v vs',vs = v :: vs' ∧ CoR l v ∧ CoRs ls vs'
def isAggD:TypeDesc → Bool
 | .struct _ | .array _ _ => true
 | _ => false
def fieldOf (P:Program) (f:Field):Option (Nat × Nat × Bool) :=
 match P.info? f.type,P.underlying f.type with
 | some i,some d => some (f.offset,i.size,isAggD d)
 | _,_ => none
def zeroAt (P:Program) (t:TypeId) (zs:List Leaf):Prop :=
 ∃ i z,P.info? t = some i ∧ i.size = zs.length ∧ i.zero = some z ∧ CoRs zs z.cells.toList
def keyD:CT → TypeDesc → Prop
 | .int k,d => d = .int k
 | .bool,d => d = .bool
 | .str,d => d = .string
 | _,_ => False
def TdOk (P:Program) (t:TypeId):TD → Prop
 | .leaf z => zeroAt P t [z] ∧ ∃ d,P.underlying t = some d ∧ isAggD d = false ∧ (∀ k x,z = .int k x → d = .int k) ∧ (∀ x,z = .str x → d = .string) ∧ (∀ x,z = .bool x → d = .bool) ∧ (z = .nilp → ∀ ms,d ≠ .interface ms)
 | .struct fs zs => zeroAt P t zs ∧ ∃ fields,P.underlying t = some (.struct fields) ∧ fields.toList.map (fieldOf P) = fs.map some ∧ ∀ f ∈ fs,f.2.1 ≠ 0
 | .slice e en => zeroAt P t [.nils] ∧ P.underlying t = some (.slice en) ∧
    ∃ i z,P.info? en = some i ∧ i.zero = some z ∧ i.bytes ≤ 512 ∧ (e = .unit → i.size = 1) ∧ (e ≠ .unit → i.size = e.size ∧ e.wf = true ∧ 0 < e.size ∧ CoRs (zerosOf e) z.cells.toList ∧ z.cells.size = e.size)
 | .arr e n agg zs => zeroAt P t zs ∧ zs.length = n * e.size ∧ 0 < e.size ∧ ∃ en,P.underlying t = some (.array n en) ∧ (∃ d,P.underlying en = some d ∧ isAggD d = agg) ∧ ∃ i,P.info? en = some i ∧ i.size = e.size
 | .map k v agg => zeroAt P t [.nilm] ∧ ∃ kt et,P.underlying t = some (.map kt et) ∧ (∃ d,P.underlying kt = some d ∧ keyD k d) ∧
    ∃ i z,P.info? et = some i ∧ i.zero = some z ∧ v.wf = true ∧ CoRs (zerosOf v) z.cells.toList ∧ z = valOf agg z.cells.toList ∧ (agg = false → v.size = 1)
def TabOk (P:Program) (tab:Nat → Option TD):Prop:=∀ t td,tab t = some td → TdOk P t td
section
variable {P:Program} {w:World}
theorem TdOk.zero {t:TypeId} {td:TD} (h:TdOk P t td):zeroAt P t td.zeros:=by
 cases td with
 | leaf z => exact h.1
 | struct fs zs => exact h.1
 | slice e en => exact h.1
 | arr e n agg zs => exact h.1
 | map k v agg => exact h.1
theorem TdOk.und {t:TypeId} {td:TD} (h:TdOk P t td):∃ d,P.underlying t = some d ∧ isAggD d = td.agg:=by
 cases td with
 | leaf z => obtain ⟨_,d,h1,h2,_⟩:=h; exact ⟨d,h1,h2⟩
 | struct fs zs => obtain ⟨_,f,h1,_⟩:=h; exact ⟨_,h1,rfl⟩
 | slice e en => exact ⟨_,h.2.1,rfl⟩
 | arr e n agg zs => obtain ⟨_,_,_,en,h1,_⟩:=h; exact ⟨_,h1,rfl⟩
 | map k v agg => obtain ⟨_,kt,et,h1,_⟩:=h; exact ⟨_,h1,rfl⟩
theorem TD.size_zeros (td:TD):td.zeros.length = td.size:=by cases td <;> rfl
theorem run_info {t:TypeId} {i:TypeInfo} (h:P.info? t = some i):(typeInfo t).run P w = .ok i w:=by
 simp [typeInfo,h]
theorem TdOk.run_size {t:TypeId} {td:TD} (h:TdOk P t td):(sizeOf t).run P w = .ok td.size w:=by
 obtain ⟨i,z,hi,hs,_⟩:=h.zero
 simp [sizeOf,run_info hi,hs,TD.size_zeros]
theorem TdOk.run_zero {t:TypeId} {td:TD} (h:TdOk P t td):∃ z,(zeroValue t).run P w = .ok z w ∧ CoRs td.zeros z.cells.toList:=by
 obtain ⟨i,z,hi,hs,hz,hc⟩:=h.zero
 exact ⟨z,by simp [zeroValue,run_info hi,hz],hc⟩
theorem TdOk.run_agg {t:TypeId} {td:TD} (h:TdOk P t td):(isAgg t).run P w = .ok td.agg w:=by
 obtain ⟨d,hd,ha⟩:=h.und
 rw [← ha]
 simp [isAgg,run_underlying hd]
 cases d <;> rfl
theorem Addr.add0 (b o j:Nat):(⟨b,o,none⟩:Addr).add j = ⟨b,o + j,none⟩:=by
 unfold Addr.add; split <;> simp_all
theorem cellsAt_get:∀ (vs:List Value) (o:Nat) (b:Nat),cellsAt w b o vs → ∀ j v,vs[j]? = some v → w.cell? ⟨b,o + j,none⟩ = some v
 | [],_,_,_,j,v,h => by simp at h
 | x :: vs,o,b,⟨h1,h2⟩,0,v,h => by simp at h; subst h; exact h1
 | x :: vs,o,b,⟨h1,h2⟩,j + 1,v,h => by
   have:=cellsAt_get vs (o + 1) b h2 j v (by simpa using h)
   rwa [show o + 1 + j = o + (j + 1) by omega] at this
theorem cellsAt_of:∀ (vs:List Value) (o:Nat) (b:Nat),(∀ j v,vs[j]? = some v → w.cell? ⟨b,o + j,none⟩ = some v) → cellsAt w b o vs
 | [],_,_,_ => trivial
 | x :: vs,o,b,h => ⟨by simpa using h 0 x (by simp),cellsAt_of vs (o + 1) b fun j v hj => by
    have:=h (j + 1) v (by simpa using hj)
    rwa [show o + (j + 1) = o + 1 + j by omega] at this⟩
theorem run_loadCells_at {b o:Nat} {vs:List Value} (h:cellsAt w b o vs):(loadCells ⟨b,o,none⟩ vs.length).run P w = .ok vs.toArray w :=
 run_loadCells_list (P:=P) w ⟨b,o,none⟩ vs fun j v hv => by rw [Addr.add0]; exact cellsAt_get vs o b h j v hv
theorem run_loadVar {t:TypeId} {td:TD} (h:TdOk P t td) {b o:Nat} {vs:List Value} (hc:cellsAt w b o vs) (hl:vs.length = td.size) :
  (loadVar t ⟨b,o,none⟩).run P w = .ok (valOf td.agg vs) w:=by
 cases ha:td.agg with
 | true =>
   have:=run_loadCells_at (P:=P) hc
   rw [hl] at this
   simp [loadVar,h.run_agg,ha,h.run_size,this,valOf]
 | false =>
   have h1:td.size = 1:=by cases td <;> first | rfl | cases ha
   rw [h1] at hl
   match vs,hl,hc with
   | [v],_,⟨h2,_⟩ => simp [loadVar,h.run_agg,ha,h2,valOf]
structure Wrote (w w':World) (b o:Nat) (vs:List Value):Prop where
 os:w'.os = w.os
 tape:w'.tape = w.tape
 output:w'.output = w.output
 size:w'.heap.size = w.heap.size
 other:∀ k,k ≠ b → w'.heap[k]? = w.heap[k]?
 fz:Fz w b → Fz w' b
 bs:blockSize w' b = blockSize w b
 cell:∀ j,w'.cell? ⟨b,j,none⟩ = if o ≤ j ∧ j < o + vs.length then vs[j - o]? else w.cell? ⟨b,j,none⟩
theorem Wrote.nil (w:World) (b o:Nat):Wrote w w b o []:=⟨rfl,rfl,rfl,rfl,fun _ _ => rfl,fun h => h,rfl,fun j => by rw [if_neg (by simp)]⟩
theorem blockSize_setCell (w:World) (a:Addr) (v:Value) (b:Nat):blockSize (w.setCell a v) b = blockSize w b:=by
 unfold blockSize World.setCell
 simp only [Array.getElem?_modify]
 by_cases h:a.block = b
 · simp only [h,if_true]
   cases w.heap[b]? with
   | none => rfl
   | some o => cases o <;> simp <;> (try split) <;> simp
 · simp [h]
theorem Fz.setCell {w:World} {b:Nat} (h:Fz w b) (a:Addr) (v:Value):Fz (w.setCell a v) b:=by
 obtain ⟨c,t,f,hb,h⟩:=h
 have:∃ c',(w.setCell a v).heap[b]? = some (.cells c' t f) ∧ c'.size = c.size:=by
  unfold World.setCell
  simp only [Array.getElem?_modify]
  by_cases e:a.block = b
  · simp only [e,if_true,hb,Option.map_some]
    split
    all_goals first
     | exact ⟨_,rfl,rfl⟩
     | exact ⟨_,rfl,by simp⟩
  · simp only [e,if_false]
    exact ⟨c,hb,rfl⟩
 obtain ⟨c',h1,h2⟩:=this
 exact ⟨c',t,f,h1,by rw [h2]; exact h⟩
theorem run_storeCells:∀ (vs:List Value) (b o i:Nat) (w:World),(∀ v ∈ vs,v.oneCell' = true) → (∀ j,j < vs.length → (w.cell? ⟨b,o + i + j,none⟩).isSome = true) → Fz w b →
  ∃ w',(storeCells ⟨b,o,none⟩ vs i).run P w = .ok () w' ∧ Wrote w w' b (o + i) vs
 | [],b,o,i,w,_,_,_ => ⟨w,by simp [storeCells],Wrote.nil w b _⟩
 | v :: vs,b,o,i,w,h1,h2,h3 => by
   have hc:=h2 0 (by simp)
   simp only [Nat.add_zero] at hc
   obtain ⟨u,hu⟩:=Option.isSome_iff_exists.1 hc
   have hst:(store ((⟨b,o,none⟩:Addr).add i) v).run P w = .ok () (w.setCell ⟨b,o + i,none⟩ v):=by
    rw [run_store P w _ v .plain (h1 v (by simp)),Addr.add0,hu]
    simp [h3.no hu]
   have hcell:∀ j,(w.setCell ⟨b,o + i,none⟩ v).cell? ⟨b,j,none⟩ = if j = o + i then some v else w.cell? ⟨b,j,none⟩:=by
    intro j
    by_cases hj:j = o + i
    · subst hj; rw [if_pos rfl]; exact World.cell?_setCell_same w ⟨b,o + i,none⟩ v hu
    · rw [if_neg hj]; exact World.cell?_setCell_other w ⟨b,o + i,none⟩ ⟨b,j,none⟩ v (by intro e; cases e; exact hj rfl)
   obtain ⟨w',hr,hw⟩:=run_storeCells vs b o (i + 1) (w.setCell ⟨b,o + i,none⟩ v) (fun u hu => h1 u (List.mem_cons_of_mem _ hu))
    (fun j hj => by
      have:=h2 (j + 1) (by simp; omega)
      rw [hcell]
      split
      · rfl
      · rwa [show o + i + (j + 1) = o + (i + 1) + j by omega] at this)
    (h3.setCell _ _)
   refine ⟨w',by simp [storeCells,hst,hr],?_⟩
   refine ⟨hw.os,hw.tape,hw.output,by rw [hw.size]; simp,fun k hk => ?_,?_,?_,fun j => ?_⟩
   · rw [hw.other k hk]; simp only [World.setCell,Array.getElem?_modify]; rw [if_neg (fun e => hk e.symm)]
   · exact fun hf => hw.fz (hf.setCell _ _)
   · rw [hw.bs,blockSize_setCell]
   · rw [hw.cell j,hcell]
     by_cases h:o + (i + 1) ≤ j ∧ j < o + (i + 1) + vs.length
     · rw [if_pos h,if_pos (by simp; omega)]
       obtain ⟨k,rfl⟩:∃ k,j = o + i + 1 + k:=⟨j - (o + i + 1),by omega⟩
       simp [show o + i + 1 + k - (o + (i + 1)) = k by omega,show o + i + 1 + k - (o + i) = k + 1 by omega]
     · rw [if_neg h]
       by_cases hj:j = o + i
       · rw [if_pos hj,if_pos (by simp; omega)]; subst hj; simp
       · rw [if_neg hj,if_neg (by simp; omega)]
theorem run_storeVar {t:TypeId} {td:TD} (h:TdOk P t td) {b o:Nat} {v:Value} (hl:v.cells.size = td.size) (h1:∀ u ∈ v.cells.toList,u.oneCell' = true)
  (h2:∀ j,j < v.cells.size → (w.cell? ⟨b,o + j,none⟩).isSome = true) (h3:Fz w b) :
  ∃ w',(storeVar t ⟨b,o,none⟩ v).run P w = .ok () w' ∧ Wrote w w' b o v.cells.toList:=by
 obtain ⟨w',hr,hw⟩:=run_storeCells (P:=P) v.cells.toList b o 0 w h1 (fun j hj => by simpa using h2 j (by simpa using hj)) h3
 refine ⟨w',?_,by simpa using hw⟩
 simp [storeVar,h.run_size,hl,hr]
theorem run_newVar (t:TypeId) (v:Value):(newVar t v).run P w = .ok ⟨w.heap.size,0,none⟩ (w.alloc (.cells v.cells t)):=by
 simp [newVar,newRow]
theorem Wrote.same {w0:World} {own0:Nat → Prop} {w':World} {b o:Nat} {vs:List Value} (h:Same w0 own0 w) (hw:Wrote w w' b o vs) (hb:own0 b ∨ w0.heap.size ≤ b):Same w0 own0 w' :=
 ⟨hw.os.trans h.os,hw.tape.trans h.tape,hw.output.trans h.output,by rw [hw.size]; exact h.size,fun k hk hn => by
  rw [hw.other k (fun e => by subst e; rcases hb with hb | hb; exact hn hb; omega)]; exact h.block k hk hn⟩
end
end Go.Bm
end
