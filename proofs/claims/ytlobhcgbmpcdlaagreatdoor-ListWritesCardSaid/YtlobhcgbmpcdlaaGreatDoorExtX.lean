import Derived.Test.YtlobhcgbmpcdlaaGreatDoorRes
import Derived.Shelf.Strconv.Itoa3
import Derived.Shelf.Strings.BuilderK
import Derived.WalkKit
import Derived.BigCall
import Derived.Shelf.GgClosure.StringsIndexFuncTop
import Derived.Test.YtlobhcgbmpcdlaaGreatDoorResOk
import Derived.Test.YtlobhcgbmpcdlaaGreatDoorRows
import Derived.Stop.LaidErr
import Derived.MakeChecks
import Derived.LaidMore
section
namespace Go.Proofs
open Go.Shelf
def Tryz.a9G : Go.Shelf.Ren := ⟨fun | 171 => 150 | 243 => 162 | 246 => 168 | 283 => 172 | 284 => 173 | 285 => 174 | 286 => 175 | 129 => 180 | 317 => 179 | 318 => 181 | 319 => 182 | 320 => 183 | 337 => 186 | 338 => 187 | n => n, fun | 3 => 3 | 9 => 9 | 2 => 2 | 4 => 4 | 171 => 189 | 0 => 0 | 53 => 190 | 37 => 90 | 5 => 5 | 173 => 193 | 212 => 198 | 51 => 199 | 20 => 20 | 213 => 200 | 46 => 151 | 232 => 205 | 233 => 206 | n => n, fun | 17 => 1 | 18 => 2 | 19 => 3 | n => n⟩
theorem Tryz.b7n : Go.Proofs.LaysM.n171 Tryz.prog Tryz.a9G := {
 mixed := by kernel_rfl
 f129 := Tryz.func180.trans (congrArg some (by kernel_rfl))
 f171 := Tryz.func150.trans (congrArg some (by kernel_rfl))
 f243 := Tryz.func162.trans (congrArg some (by kernel_rfl))
 f246 := Tryz.func168.trans (congrArg some (by kernel_rfl))
 f283 := Tryz.func172.trans (congrArg some (by kernel_rfl))
 f284 := Tryz.func173.trans (congrArg some (by kernel_rfl))
 f285 := Tryz.func174.trans (congrArg some (by kernel_rfl))
 f286 := Tryz.func175.trans (congrArg some (by kernel_rfl))
 f317 := Tryz.func179.trans (congrArg some (by kernel_rfl))
 f318 := Tryz.func181.trans (congrArg some (by kernel_rfl))
 f319 := Tryz.func182.trans (congrArg some (by kernel_rfl))
 f320 := Tryz.func183.trans (congrArg some (by kernel_rfl))
 f337 := Tryz.func186.trans (congrArg some (by kernel_rfl))
 f338 := Tryz.func187.trans (congrArg some (by kernel_rfl))
 t0 := Tryz.underlying0
 a0 := Tryz.isAgg0
 z0 := Tryz.sizeOf0
 v0 := Tryz.zeroValue0
 t2 := Tryz.underlying2
 a2 := Tryz.isAgg2
 z2 := Tryz.sizeOf2
 v2 := Tryz.zeroValue2
 t3 := Tryz.underlying3
 a3 := Tryz.isAgg3
 z3 := Tryz.sizeOf3
 v3 := Tryz.zeroValue3
 t4 := Tryz.underlying4
 a4 := Tryz.isAgg4
 z4 := Tryz.sizeOf4
 v4 := Tryz.zeroValue4
 t5 := Tryz.underlying5
 a5 := Tryz.isAgg5
 z5 := Tryz.sizeOf5
 v5 := Tryz.zeroValue5
 t9 := Tryz.underlying9
 a9 := Tryz.isAgg9
 z9 := Tryz.sizeOf9
 v9 := Tryz.zeroValue9
 t20 := Tryz.underlying20
 a20 := Tryz.isAgg20
 z20 := Tryz.sizeOf20
 v20 := Tryz.zeroValue20
 t37 := Tryz.underlying90
 a37 := Tryz.isAgg90
 z37 := Tryz.sizeOf90
 v37 := Tryz.zeroValue90
 t46 := Tryz.underlying151
 a46 := Tryz.isAgg151
 z46 := Tryz.sizeOf151
 v46 := Tryz.zeroValue151
 t51 := Tryz.underlying199
 a51 := Tryz.isAgg199
 z51 := Tryz.sizeOf199
 v51 := Tryz.zeroValue199
 t53 := Tryz.underlying190
 a53 := Tryz.isAgg190
 z53 := Tryz.sizeOf190
 v53 := Tryz.zeroValue190
 t171 := Tryz.underlying189
 a171 := Tryz.isAgg189
 z171 := Tryz.sizeOf189
 v171 := Tryz.zeroValue189
 t173 := Tryz.underlying193
 a173 := Tryz.isAgg193
 z173 := Tryz.sizeOf193
 v173 := Tryz.zeroValue193
 t212 := Tryz.underlying198
 a212 := Tryz.isAgg198
 z212 := Tryz.sizeOf198
 v212 := Tryz.zeroValue198
 t213 := Tryz.underlying200
 a213 := Tryz.isAgg200
 z213 := Tryz.sizeOf200
 t232 := Tryz.underlying205
 a232 := Tryz.isAgg205
 z232 := Tryz.sizeOf205
 v232 := Tryz.zeroValue205
 t233 := Tryz.underlying206
 a233 := Tryz.isAgg206
 z233 := Tryz.sizeOf206
 v233 := Tryz.zeroValue206
 g17 := by kernel_rfl
 g18 := by kernel_rfl
 g19 := by kernel_rfl
 i0 := by kernel_rfl
 i2 := by kernel_rfl
 i3 := by kernel_rfl
 i4 := by kernel_rfl
 i5 := by kernel_rfl
 i9 := by kernel_rfl
 i20 := by kernel_rfl
 i37 := by kernel_rfl
 i46 := by kernel_rfl
 i51 := by kernel_rfl
 i53 := by kernel_rfl
 i171 := by kernel_rfl
 i173 := by kernel_rfl
 i212 := by kernel_rfl
 i232 := by kernel_rfl
 i233 := by kernel_rfl
 m17 := by kernel_rfl
 m18 := by kernel_rfl
 m19 := by kernel_rfl }
theorem Tryz.a3Q (n : Int) (h0 : -9223372036854775808 ≤ n) (h1 : n ≤ 9223372036854775807) (w : World) (htab : Lib.TabIs Tryz.prog w "internal/strconv.uint64pow10" .u64 Lib.pow10Tab) :
 Calls Tryz.prog 150 #[.int .i64 n] w fun e w' => e = .returned (.string ⟨(Lib.itoa n).toArray⟩) ∧ ∃ k os, w' = Sort.grow (w.drewN k) os := Any.strconv_Itoa Tryz.b7n n h0 h1 w htab
end Go.Proofs
end
section
open List (length_append length_cons)
set_option linter.unusedVariables false
namespace Go.Proofs
open Go.Shelf Go.RowKit
def Tryz.a4X : Go.Shelf.Ren := ⟨fun | 167 => 50 | 240 => 91 | 276 => 118 | n => n, fun | 70 => 89 | 5 => 5 | 75 => 94 | 0 => 0 | 72 => 92 | 37 => 90 | 4 => 4 | 164 => 145 | 80 => 78 | 9 => 9 | n => n, fun | n => n⟩
theorem Tryz.c0p : Go.Proofs.Lays.n167 Tryz.prog Tryz.a4X := {
 mixed := by kernel_rfl
 f167 := Tryz.func50.trans (congrArg some (by kernel_rfl))
 f240 := Tryz.func91.trans (congrArg some (by kernel_rfl))
 f276 := Tryz.func118.trans (congrArg some (by kernel_rfl))
 t0 := Tryz.underlying0
 a0 := Tryz.isAgg0
 z0 := Tryz.sizeOf0
 v0 := Tryz.zeroValue0
 t4 := Tryz.underlying4
 a4 := Tryz.isAgg4
 z4 := Tryz.sizeOf4
 v4 := Tryz.zeroValue4
 t5 := Tryz.underlying5
 a5 := Tryz.isAgg5
 z5 := Tryz.sizeOf5
 v5 := Tryz.zeroValue5
 t9 := Tryz.underlying9
 a9 := Tryz.isAgg9
 z9 := Tryz.sizeOf9
 v9 := Tryz.zeroValue9
 t20 := Tryz.underlying20
 a20 := Tryz.isAgg20
 z20 := Tryz.sizeOf20
 v20 := Tryz.zeroValue20
 t37 := Tryz.underlying90
 a37 := Tryz.isAgg90
 z37 := Tryz.sizeOf90
 v37 := Tryz.zeroValue90
 t70 := Tryz.underlying89
 a70 := Tryz.isAgg89
 z70 := Tryz.sizeOf89
 v70 := Tryz.zeroValue89
 t72 := Tryz.underlying92
 a72 := Tryz.isAgg92
 z72 := Tryz.sizeOf92
 v72 := Tryz.zeroValue92
 t75 := Tryz.underlying94
 a75 := Tryz.isAgg94
 z75 := Tryz.sizeOf94
 v75 := Tryz.zeroValue94
 t164 := Tryz.underlying145
 a164 := Tryz.isAgg145
 z164 := Tryz.sizeOf145
 v164 := Tryz.zeroValue145 }
def Tryz.a4W : Go.Shelf.Ren := ⟨fun | 166 => 51 | 240 => 91 | 276 => 118 | n => n, fun | 70 => 89 | 9 => 9 | 3 => 3 | 75 => 94 | 0 => 0 | 72 => 92 | 37 => 90 | 4 => 4 | 164 => 145 | 80 => 78 | 5 => 5 | n => n, fun | n => n⟩
theorem Tryz.c0o : Go.Proofs.Lays.n166 Tryz.prog Tryz.a4W := {
 mixed := by kernel_rfl
 f166 := Tryz.func51.trans (congrArg some (by kernel_rfl))
 f240 := Tryz.func91.trans (congrArg some (by kernel_rfl))
 f276 := Tryz.func118.trans (congrArg some (by kernel_rfl))
 t0 := Tryz.underlying0
 a0 := Tryz.isAgg0
 z0 := Tryz.sizeOf0
 v0 := Tryz.zeroValue0
 t3 := Tryz.underlying3
 a3 := Tryz.isAgg3
 z3 := Tryz.sizeOf3
 v3 := Tryz.zeroValue3
 t4 := Tryz.underlying4
 a4 := Tryz.isAgg4
 z4 := Tryz.sizeOf4
 v4 := Tryz.zeroValue4
 t9 := Tryz.underlying9
 a9 := Tryz.isAgg9
 z9 := Tryz.sizeOf9
 v9 := Tryz.zeroValue9
 t20 := Tryz.underlying20
 a20 := Tryz.isAgg20
 z20 := Tryz.sizeOf20
 v20 := Tryz.zeroValue20
 t37 := Tryz.underlying90
 a37 := Tryz.isAgg90
 z37 := Tryz.sizeOf90
 v37 := Tryz.zeroValue90
 t70 := Tryz.underlying89
 a70 := Tryz.isAgg89
 z70 := Tryz.sizeOf89
 v70 := Tryz.zeroValue89
 t72 := Tryz.underlying92
 a72 := Tryz.isAgg92
 z72 := Tryz.sizeOf92
 v72 := Tryz.zeroValue92
 t75 := Tryz.underlying94
 a75 := Tryz.isAgg94
 z75 := Tryz.sizeOf94
 v75 := Tryz.zeroValue94
 t164 := Tryz.underlying145
 a164 := Tryz.isAgg145
 z164 := Tryz.sizeOf145
 v164 := Tryz.zeroValue145 }
def Tryz.a4Y : Go.Shelf.Ren := ⟨fun | 169 => 52 | n => n, fun | 70 => 89 | 9 => 9 | 0 => 0 | 72 => 92 | 37 => 90 | 127 => 126 | 3 => 3 | 5 => 5 | n => n, fun | n => n⟩
theorem Tryz.c0q : Go.Proofs.Lays.n169 Tryz.prog Tryz.a4Y := {
 mixed := by kernel_rfl
 f169 := Tryz.func52.trans (congrArg some (by kernel_rfl))
 t0 := Tryz.underlying0
 a0 := Tryz.isAgg0
 z0 := Tryz.sizeOf0
 v0 := Tryz.zeroValue0
 t3 := Tryz.underlying3
 a3 := Tryz.isAgg3
 z3 := Tryz.sizeOf3
 v3 := Tryz.zeroValue3
 t9 := Tryz.underlying9
 a9 := Tryz.isAgg9
 z9 := Tryz.sizeOf9
 v9 := Tryz.zeroValue9
 t37 := Tryz.underlying90
 a37 := Tryz.isAgg90
 z37 := Tryz.sizeOf90
 v37 := Tryz.zeroValue90
 t70 := Tryz.underlying89
 a70 := Tryz.isAgg89
 z70 := Tryz.sizeOf89
 v70 := Tryz.zeroValue89
 t72 := Tryz.underlying92
 a72 := Tryz.isAgg92
 z72 := Tryz.sizeOf92
 v72 := Tryz.zeroValue92
 t127 := Tryz.underlying126
 a127 := Tryz.isAgg126
 z127 := Tryz.sizeOf126
 v127 := Tryz.zeroValue126 }
theorem Tryz.a2Q : Builder.Extra Tryz.prog Tryz.a4X := {
 sizeBuilder := by kernel_rfl
 liesBuilder := by kernel_rfl
 t5 := Tryz.underlying5
 a5 := Tryz.isAgg5
 z5 := Tryz.sizeOf5
 v5 := Tryz.zeroValue5
 infoByte := by kernel_rfl
 cellsByte := by kernel_rfl
 sizeByte := by kernel_rfl
 neB5 := by decide }
theorem Tryz.a2P : Builder.Extra Tryz.prog Tryz.a4W := {
 sizeBuilder := by kernel_rfl
 liesBuilder := by kernel_rfl
 t5 := Tryz.underlying5
 a5 := Tryz.isAgg5
 z5 := Tryz.sizeOf5
 v5 := Tryz.zeroValue5
 infoByte := by kernel_rfl
 cellsByte := by kernel_rfl
 sizeByte := by kernel_rfl
 neB5 := by decide }
theorem Tryz.a2R : Builder.Extra Tryz.prog Tryz.a4Y := {
 sizeBuilder := by kernel_rfl
 liesBuilder := by kernel_rfl
 t5 := Tryz.underlying5
 a5 := Tryz.isAgg5
 z5 := Tryz.sizeOf5
 v5 := Tryz.zeroValue5
 infoByte := by kernel_rfl
 cellsByte := by kernel_rfl
 sizeByte := by kernel_rfl
 neB5 := by decide }
theorem Tryz.b5B (B b : Nat) (bs : List Value) (c : Int) (w : World) (h : Lib.IsBuilderF 92 5 B b bs w) (hlen : bs.length + 1 ≤ 140737488355328) (hBw : B ≤ w.heap.size) :
 Calls Tryz.prog 50 #[.pointer (some ⟨b, 0, none⟩), .int .u8 c] w fun e w' => e = .returned .nilIface ∧ (Lib.BuilderAtF 92 5 B b (.pointer (some ⟨b, 0, none⟩)) (bs ++ [.int .u8 c]) w' ∧ Below B w w' ∧ Lib.OthersKept 5 (some b) w w') := Any.Builder_WriteByte_k Tryz.c0p Tryz.a2Q B b bs c w h hlen hBw
theorem Tryz.writeString (B b : Nat) (bs : List Value) (s : ByteArray) (w : World) (h : Lib.IsBuilderF 92 5 B b bs w) (hlen : bs.length + s.size ≤ 140737488355328) (hBw : B ≤ w.heap.size) :
 Calls Tryz.prog 51 #[.pointer (some ⟨b, 0, none⟩), .string s] w fun e w' => e = .returned (.tuple #[.int .i64 s.size, .nilIface]) ∧ (Lib.BuilderAtF 92 5 B b (.pointer (some ⟨b, 0, none⟩)) (bs ++ Lib.strCells s) w' ∧ Below B w w' ∧ Lib.OthersKept 5 (some b) w w') := Any.Builder_WriteString_k Tryz.c0o Tryz.a2P B b bs s w h hlen hBw
theorem Tryz.a7Q (B b : Nat) (l : List UInt8) (w : World) (h : Lib.IsBuilderF 92 5 B b (Lib.byteCells l) w) (hBw : B ≤ w.heap.size) :
 Calls Tryz.prog 52 #[.pointer (some ⟨b, 0, none⟩)] w fun e w' => e = .returned (.string ⟨l.toArray⟩) ∧ (Lib.IsBuilderF 92 5 B b (Lib.byteCells l) w' ∧ Below B w w' ∧ Lib.OthersKept 5 (some b) w w') := Any.Builder_String_any_k Tryz.c0q Tryz.a2R B b l w h hBw
open Go.Bm in
theorem b2n : ∀ (l : List (Int × List UInt8 × Int)) (x : Int × List UInt8 × Int), l ≠ [] → s5 (l ++ [x]) = s5 l ++ 32 :: x.2.1 := by
 have hR : ∀ (l : List (Int × List UInt8 × Int)) (x : Int × List UInt8 × Int), O5 (l ++ [x]) = O5 l ++ 32 :: x.2.1 := by
  intro l x
  induction l with
  | nil => simp [O5]
  | cons y l ih => simp [O5, ih]
 intro l x h
 cases l with
 | nil => exact absurd rfl h
 | cons y l => simp [s5, hR]
open Go.Bm in
theorem a2g (l : List (Int × List UInt8 × Int)) (k : Nat) : (s5 (l.take k)).length ≤ (s5 l).length := by
 have hR : ∀ (l : List (Int × List UInt8 × Int)) (k : Nat), (O5 (l.take k)).length ≤ (O5 l).length := by
  intro l
  induction l with
  | nil => intro k; simp
  | cons y l ih =>
    intro k
    cases k with
    | zero => simp [O5]
    | succ k => simp only [List.take_succ_cons, O5, length_cons, length_append]; have := ih k; omega
 cases l with
 | nil => simp
 | cons y l =>
   cases k with
   | zero => simp [s5]
   | succ k => simp only [List.take_succ_cons, s5, length_append]; have := hR l k; omega
open Go.Bm in
theorem b4V (l : List (Int × List UInt8 × Int)) : l.length ≤ (s5 l).length + 1 := by
 have hR : ∀ (l : List (Int × List UInt8 × Int)), l.length ≤ (O5 l).length := by
  intro l
  induction l with
  | nil => simp
  | cons y l ih => simp only [O5, length_cons, length_append]; omega
 cases l with
 | nil => simp
 | cons y l => simp only [s5, length_append, length_cons]; have := hR l; omega
open Go.Bm in
set_option maxHeartbeats 4000000 in
set_option maxRecDepth 1000000 in
theorem Tryz.join (l : List (Int × List UInt8 × Int)) (a : Option Addr) (cap : Nat) (w : World) (hlen : (s5 l).length ≤ 274877906944)
  (hc : ∀ k x, l[k]? = some x → ∃ (b o : Nat) (s : ByteArray), a = some ⟨b, o, none⟩ ∧ b < w.heap.size ∧ s.data.toList = x.2.1 ∧ w.cell? ⟨b, o + k * 3, none⟩ = some (.int .i64 x.1) ∧ w.cell? ⟨b, o + k * 3 + 1, none⟩ = some (.string s) ∧ w.cell? ⟨b, o + k * 3 + 2, none⟩ = some (.int .i64 x.2.2)) :
  Calls Tryz.prog 21 #[.slice a l.length cap] w fun e w' => e = .returned (.string ⟨(s5 l).toArray⟩) ∧ Below w.heap.size w w' := by
 have hN : l.length ≤ 274877906945 := Nat.le_trans (b4V l) (by omega)
 go_enter Tryz.func21, Tryz.ntmps21
 go_wp2
 go_loopw [8] (fun i wr => ∃ k : Nat, k ≤ l.length ∧ i = .int .i64 k ∧ Lib.IsBuilderF 92 5 w.heap.size w.heap.size (Lib.byteCells (s5 (l.take k))) wr ∧ Below w.heap.size w wr ∧ w.heap.size < wr.heap.size) (fun i _ => l.length - (intOf i).toNat)
 case atStart =>
  exact ⟨0, Nat.zero_le _, rfl, Lib.IsBuilderF.of (Lib.fresh_isBuilder 92 5 w), (Below.refl _ w).alloc (Nat.le_refl _) _, by simp⟩
 case round =>
  obtain ⟨k, hk, rfl, hI, hbw, hsz⟩ := hrel
  by_cases hkl : k < l.length
  · obtain ⟨b, o, s, rfl, hb, hs, c0, c1, c2⟩ := hc k l[k] (List.getElem?_eq_getElem hkl)
    have d0 : wr.cell? ⟨b, o + k * 3, none⟩ = _ := (hbw.cell (by exact hb)).trans c0
    have d1 : wr.cell? ⟨b, o + k * 3 + 1, none⟩ = _ := (hbw.cell (by exact hb)).trans c1
    have d2 : wr.cell? ⟨b, o + k * 3 + 2, none⟩ = _ := (hbw.cell (by exact hb)).trans c2
    have hws : w.heap.size ≤ wr.heap.size := hbw.size
    have hlk : (s5 (l.take k)).length ≤ 274877906944 := Nat.le_trans (a2g l k) hlen
    have hstep : s5 (l.take (k + 1)) = (if k = 0 then [] else s5 (l.take k) ++ [32]) ++ s.data.toList := by
     rw [List.take_add_one, List.getElem?_eq_getElem hkl, hs]
     by_cases h0 : k = 0
     · subst h0; simp [s5, O5]
     · rw [if_neg h0]
       have := b2n (l.take k) l[k] (by intro h; rw [List.take_eq_nil_iff] at h; rcases h with h | h; exact h0 h; rw [h] at hkl; simp at hkl)
       simpa using this
    have hlk1 : (s5 (l.take (k + 1))).length ≤ 274877906944 := Nat.le_trans (a2g l (k + 1)) hlen
    have hb2 : Below w.heap.size w (wr.alloc (.cells #[.int .i64 l[k].1, .string s, .int .i64 l[k].2.2] 88)) := hbw.alloc hws _
    have hI2 := hI.alloc (.cells #[.int .i64 l[k].1, .string s, .int .i64 l[k].2.2] 88)
    have hT0 : (wr.alloc (.cells #[.int .i64 l[k].1, .string s, .int .i64 l[k].2.2] 88)).heap[wr.heap.size]? = some (.cells #[.int .i64 l[k].1, .string s, .int .i64 l[k].2.2] 88) := Go.Bm.heap_alloc_new _ _
    have hsz2 : w.heap.size < (wr.alloc (.cells #[.int .i64 l[k].1, .string s, .int .i64 l[k].2.2] 88)).heap.size := by simp; omega
    have hslen : s.size ≤ 274877906944 := by
     have h1 : (s5 (l.take (k + 1))).length ≤ 274877906944 := hlk1
     rw [hstep] at h1
     have : s.size = s.data.toList.length := (Array.length_toList (xs := s.data)).symm
     rw [this]; simp only [length_append] at h1; omega
    have fin : ∀ (bs : List UInt8) (W1 : World), s5 (l.take (k + 1)) = bs ++ s.data.toList → Lib.IsBuilderF 92 5 w.heap.size w.heap.size (Lib.byteCells bs) W1 → Below w.heap.size w W1 → w.heap.size < W1.heap.size →
      ∀ W2, Lib.BuilderAtF 92 5 w.heap.size w.heap.size (.pointer (some ⟨w.heap.size, 0, none⟩)) (Lib.byteCells bs ++ Lib.strCells s) W2 → Below w.heap.size W1 W2 →
      Lib.IsBuilderF 92 5 w.heap.size w.heap.size (Lib.byteCells (s5 (l.take (k + 1)))) W2 ∧ Below w.heap.size w W2 ∧ w.heap.size < W2.heap.size := by
     intro bs W1 e1 h1 h2 h3 W2 h4 h5
     refine ⟨?_, h2.trans h5, Nat.lt_of_lt_of_le h3 h5.size⟩
     rw [e1, Lib.byteCells_append, ← Lib.strCells_eq]
     exact Or.inr h4
    by_cases h0 : 0 < k
    · have e1 : s5 (l.take (k + 1)) = (s5 (l.take k) ++ [32]) ++ s.data.toList := by rw [hstep, if_neg (by omega)]
      go_wp2_with (go_at_call 50; refine (Tryz.b5B w.heap.size w.heap.size _ 32 _ hI2 (by rw [Lib.byteCells_length]; omega) (Nat.le_of_lt hsz2)).mono ?_)
      rintro e W1 ⟨rfl, h1, b1, k1⟩
      have hT1 : W1.heap[wr.heap.size]? = some (.cells #[.int .i64 l[k].1, .string s, .int .i64 l[k].2.2] 88) := k1 _ _ hT0 (by simp; omega) (by intro c fz h; cases h)
      have c1' : W1.cell? ⟨wr.heap.size, 1, none⟩ = some (.string s) := by rw [Lib.cell_of_heap hT1]; rfl
      have h1' : Lib.IsBuilderF 92 5 w.heap.size w.heap.size (Lib.byteCells (s5 (l.take k) ++ [32])) W1 := by
       rw [Lib.byteCells_append]; exact Or.inr h1
      have hl1 : (s5 (l.take k) ++ [32]).length ≤ 274877906945 := by simp; omega
      go_wp2_with (go_at_call 51; refine (Tryz.writeString w.heap.size w.heap.size _ s _ h1' (by rw [Lib.byteCells_length]; omega) (Nat.le_of_lt (Nat.lt_of_lt_of_le hsz2 b1.size))).mono ?_)
      rintro e W2 ⟨rfl, h2, b2, k2⟩
      have F := fin _ W1 e1 h1' (hb2.trans b1) (Nat.lt_of_lt_of_le hsz2 b1.size) W2 h2 b2
      go_wp2
      go_roundw
      case rel => exact ⟨k + 1, by omega, by go_num, F⟩
      case measure => simp [intOf]; omega
    · have e1 : s5 (l.take (k + 1)) = [] ++ s.data.toList := by rw [hstep, if_pos (by omega)]
      have hk0 : s5 (l.take k) = [] := by
       have : k = 0 := by omega
       subst this; simp [s5]
      rw [hk0] at hI2
      go_wp2_with (go_at_call 51; refine (Tryz.writeString w.heap.size w.heap.size _ s _ hI2 (by simp [Lib.byteCells]; omega) (Nat.le_of_lt hsz2)).mono ?_)
      rintro e W2 ⟨rfl, h2, b2, k2⟩
      have F := fin _ _ e1 hI2 hb2 hsz2 W2 h2 b2
      go_wp2
      go_roundw
      case rel => exact ⟨k + 1, by omega, by go_num, F⟩
      case measure => simp [intOf]; omega
  · have hkl2 : k = l.length := by omega
    subst hkl2
    rw [List.take_length] at hI
    go_wp2_with (go_at_call 52; refine (Tryz.a7Q w.heap.size w.heap.size _ _ hI (Nat.le_of_lt hsz)).mono ?_)
    rintro e W2 ⟨rfl, h2, b2, k2⟩
    go_wp2
    go_ret
    exact ⟨rfl, hbw.trans b2⟩
#print axioms Tryz.join
end Go.Proofs
end
section
set_option linter.unusedVariables false
namespace Go.Proofs
open Go.Shelf Go.RowKit Go.Lib
def Tryz.c0n : Go.Shelf.Ren := ⟨fun | 15 => 93 | 20 => 124 | n => n, fun | 9 => 9 | 23 => 103 | 3 => 3 | 4 => 4 | 0 => 0 | 21 => 21 | n => n, fun | n => n⟩
theorem Tryz.l15 : Go.Proofs.LaysGw.n15 Tryz.prog Tryz.c0n := {
 mixed := by kernel_rfl
 f15 := Tryz.func93.trans (congrArg some (by kernel_rfl))
 f20 := Tryz.func124.trans (congrArg some (by kernel_rfl))
 t0 := Tryz.underlying0
 a0 := Tryz.isAgg0
 z0 := Tryz.sizeOf0
 v0 := Tryz.zeroValue0
 i0 := by kernel_rfl
 t3 := Tryz.underlying3
 a3 := Tryz.isAgg3
 z3 := Tryz.sizeOf3
 v3 := Tryz.zeroValue3
 i3 := by kernel_rfl
 t4 := Tryz.underlying4
 a4 := Tryz.isAgg4
 z4 := Tryz.sizeOf4
 v4 := Tryz.zeroValue4
 i4 := by kernel_rfl
 t9 := Tryz.underlying9
 a9 := Tryz.isAgg9
 z9 := Tryz.sizeOf9
 v9 := Tryz.zeroValue9
 i9 := by kernel_rfl
 t21 := Tryz.underlying21
 a21 := Tryz.isAgg21
 z21 := Tryz.sizeOf21
 v21 := Tryz.zeroValue21
 i21 := by kernel_rfl
 t23 := Tryz.underlying103
 a23 := Tryz.isAgg103
 z23 := Tryz.sizeOf103
 v23 := Tryz.zeroValue103
 i23 := by kernel_rfl }
def C4 (r : Nat) : Bool := (decide (97 ≤ r) && decide (r ≤ 122)) || decide (r = 95) || (decide (48 ≤ r) && decide (r ≤ 57))
set_option maxHeartbeats 1000000 in
theorem Tryz.c5Y (r : Nat) (W : World) : Calls Tryz.prog 58 #[.int .i32 r] W fun e w' => e = .returned (.bool (C4 r)) ∧ w' = W := by
 by_cases h1 : 97 ≤ r <;> by_cases h2 : r ≤ 122 <;> by_cases h3 : r = 95 <;> by_cases h4 : 48 ≤ r <;> by_cases h5 : r ≤ 57
 all_goals first | (exfalso; omega) | skip
 all_goals
  have z1 : (97 : Int) ≤ (r : Int) ↔ 97 ≤ r := by omega
  have z2 : (r : Int) ≤ 122 ↔ r ≤ 122 := by omega
  have z3 : (r : Int) = 95 ↔ r = 95 := by omega
  have z4 : (48 : Int) ≤ (r : Int) ↔ 48 ≤ r := by omega
  have z5 : (r : Int) ≤ 57 ↔ r ≤ 57 := by omega
  go_enter Tryz.func58, Tryz.ntmps58
  go_wp2
  all_goals first | (exfalso; omega) | (go_ret; exact ⟨by simp [C4, h1, h2, h3, h4, h5] <;> omega, rfl⟩)
set_option maxHeartbeats 1000000 in
theorem Tryz.c0w (w : World) (B : Nat) (hB : B < w.heap.size) (hc : w.cell? ⟨B, 0, none⟩ = some (.func (.func 58) #[] #[])) :
  PredAt Tryz.prog 94 #[.pointer (some ⟨B, 0, none⟩)] encR (fun r => !(C4 r)) w := fun W r hb => by
 have hc' : W.cell? ⟨B, 0, none⟩ = some (.func (.func 58) #[] #[]) := (hb.cell (p := ⟨B, 0, none⟩) hB).trans hc
 unfold FnGives
 go_enter Tryz.func94, Tryz.ntmps94
 go_wp2_with (go_at_call 58; refine (Tryz.c5Y r W).mono ?_; rintro e w' ⟨rfl, rfl⟩)
 go_ret
 exact ⟨rfl, 0, rfl⟩
open Go.Bm in
theorem a9N (c : UInt8) : P4 c = C4 c.toNat := by
 unfold P4 C4
 have e1 : ∀ a b : Nat, Nat.ble a b = decide (a ≤ b) := fun a b => by
  cases h : Nat.ble a b with
  | true => simp [Nat.le_of_ble_eq_true h]
  | false => have : ¬ a ≤ b := fun hh => by rw [Nat.ble_eq_true_of_le hh] at h; cases h
             simp [this]
 have e2 : ∀ a b : Nat, Nat.beq a b = decide (a = b) := fun a b => by
  cases h : Nat.beq a b with
  | true => simp [Nat.eq_of_beq_eq_true h]
  | false => have : ¬ a = b := Nat.ne_of_beq_eq_false h
             simp [this]
 simp only [e1, e2]
open Go.Bm in
theorem b1w (s : ByteArray) : ∀ (f pos : Nat), s.size ≤ pos + f →
  (idxFuncFrom (fun r => !(C4 r)) true s f pos < 0 → a1t (s.data.toList.drop pos) = s.data.toList.drop pos) ∧
  (0 ≤ idxFuncFrom (fun r => !(C4 r)) true s f pos → idxFuncFrom (fun r => !(C4 r)) true s f pos ≤ s.size ∧ (pos : Int) ≤ idxFuncFrom (fun r => !(C4 r)) true s f pos ∧
    a1t (s.data.toList.drop pos) = (s.data.toList.drop pos).take ((idxFuncFrom (fun r => !(C4 r)) true s f pos).toNat - pos))
 | 0, pos, h => by
   have hl : s.data.toList.drop pos = [] := by
    apply List.drop_of_length_le; rw [← Lib.size_eq]; omega
   rw [hl]
   exact ⟨fun _ => rfl, fun h0 => by simp [idxFuncFrom] at h0⟩
 | f + 1, pos, h => by
   by_cases hp : pos < s.size
   · have hlt : pos < s.data.toList.length := by rw [← Lib.size_eq]; exact hp
     have hd : s.data.toList.drop pos = s.data.toList[pos] :: s.data.toList.drop (pos + 1) := List.drop_eq_getElem_cons hlt
     have hc : s.data.toList[pos] = s[pos]'hp := by
      rw [Array.getElem_toList]; rfl
     rw [hc] at hd
     have hnot : ∀ r, (Utf8.decode s pos).1 = r → C4 r = false → P4 (s[pos]'hp) = false →
       (idxFuncFrom (fun r => !(C4 r)) true s (f + 1) pos < 0 → a1t (s.data.toList.drop pos) = s.data.toList.drop pos) ∧
       (0 ≤ idxFuncFrom (fun r => !(C4 r)) true s (f + 1) pos → idxFuncFrom (fun r => !(C4 r)) true s (f + 1) pos ≤ s.size ∧ (pos : Int) ≤ idxFuncFrom (fun r => !(C4 r)) true s (f + 1) pos ∧
         a1t (s.data.toList.drop pos) = (s.data.toList.drop pos).take ((idxFuncFrom (fun r => !(C4 r)) true s (f + 1) pos).toNat - pos)) := by
      intro r hr h1 h2
      have e : idxFuncFrom (fun r => !(C4 r)) true s (f + 1) pos = (pos : Int) := by
       unfold idxFuncFrom
       rw [if_pos hp, if_pos (by simp [hr, h1])]
      rw [e]
      refine ⟨fun h => by omega, fun _ => ⟨by omega, Int.le_refl _, ?_⟩⟩
      rw [hd]
      simp only [a1t, h2, cond_false, Int.toNat_natCast, Nat.sub_self, List.take_zero]
     by_cases ha : (s[pos]'hp).toNat < 128
     · have hdec := decode_ascii s pos hp ha
       cases hpart : C4 (s[pos]'hp).toNat with
       | false => exact hnot _ (by rw [hdec]) hpart (by rw [a9N]; exact hpart)
       | true =>
         have e : idxFuncFrom (fun r => !(C4 r)) true s (f + 1) pos = idxFuncFrom (fun r => !(C4 r)) true s f (pos + 1) := by
          conv => lhs; unfold idxFuncFrom
          rw [if_pos hp, hdec]
          simp [hpart]
         have hB : P4 (s[pos]'hp) = true := by rw [a9N]; exact hpart
         obtain ⟨i1, i2⟩ := b1w s f (pos + 1) (by omega)
         rw [e, hd]
         simp only [a1t, hB, cond_true]
         refine ⟨fun h0 => by rw [i1 h0], fun h0 => ?_⟩
         obtain ⟨j1, j2, j3⟩ := i2 h0
         refine ⟨j1, by omega, ?_⟩
         rw [j3]
         obtain ⟨m, hm⟩ : ∃ m : Nat, idxFuncFrom (fun r => !(C4 r)) true s f (pos + 1) = (m : Int) := ⟨_, (Int.toNat_of_nonneg h0).symm⟩
         rw [hm] at j2 ⊢
         have : (m : Int).toNat - pos = ((m : Int).toNat - (pos + 1)) + 1 := by simp only [Int.toNat_natCast]; omega
         rw [this, List.take_succ_cons]
     · have hh := (decode_high s pos hp (by omega)).1
       refine hnot _ rfl ?_ ?_
       · unfold C4; simp; omega
       · rw [a9N]; unfold C4; simp; omega
   · have hl : s.data.toList.drop pos = [] := by
      apply List.drop_of_length_le; rw [← Lib.size_eq]; omega
     have e := idxFuncFrom_end (fun r => !(C4 r)) true s (f + 1) pos hp
     rw [hl, e]
     exact ⟨fun _ => rfl, fun h0 => by omega⟩
open Go.Bm in
set_option maxHeartbeats 1000000 in
theorem Tryz.row (s : ByteArray) (w : World) :
  Calls Tryz.prog 57 #[.string s, .func (.func 58) #[] #[]] w fun e w' => (∃ t : ByteArray, e = .returned (.string t) ∧ t.data.toList = a1t s.data.toList) ∧ Below w.heap.size w w' := by
 have hC := fun (W : World) (hB : w.heap.size < W.heap.size) (hc : W.cell? ⟨w.heap.size, 0, none⟩ = some (.func (.func 58) #[] #[])) =>
  Any.strings_IndexFunc Tryz.l15 94 #[.pointer (some ⟨w.heap.size, 0, none⟩)] (enters_of Tryz.func94 (by kernel_rfl) rfl) _ s W (Tryz.c0w W w.heap.size hB hc)
 change ∀ W _ _, Calls Tryz.prog 93 _ _ _ at hC
 obtain ⟨r1, r2⟩ := b1w s s.size 0 (by omega)
 change (idxFunc (fun r => !(C4 r)) true s < 0 → _) at r1
 change (0 ≤ idxFunc (fun r => !(C4 r)) true s → idxFunc (fun r => !(C4 r)) true s ≤ _ ∧ _ ≤ idxFunc (fun r => !(C4 r)) true s ∧ _ = List.take ((idxFunc (fun r => !(C4 r)) true s).toNat - 0) _) at r2
 generalize idxFunc (fun r => !(C4 r)) true s = n at hC r1 r2
 have b0 : Below w.heap.size w (w.alloc (.cells #[.func (.func 58) #[] #[]] 103)) := (Below.refl _ w).alloc (Nat.le_refl _) _
 by_cases hn : n < 0
 · go_enter Tryz.func57, Tryz.ntmps57
   go_wp2_with (go_at_call 93; refine (hC _ (by simp) (by simp)).mono ?_; rintro e w' ⟨rfl, hb⟩)
   go_ret
   exact ⟨⟨s, rfl, by simpa using (r1 hn).symm⟩, b0.trans (hb.mono (by simp))⟩
 · have h0 : 0 ≤ n := by omega
   obtain ⟨j1, _, j3⟩ := r2 h0
   go_enter Tryz.func57, Tryz.ntmps57
   go_wp2_with (go_at_call 93; refine (hC _ (by simp) (by simp)).mono ?_; rintro e w' ⟨rfl, hb⟩)
   go_ret
   refine ⟨⟨_, rfl, ?_⟩, b0.trans (hb.mono (by simp))⟩
   rw [List.drop_zero] at j3
   rw [j3]
   simp [ByteArray.data_extract]
#print axioms Tryz.row
end Go.Proofs
end
section
set_option linter.unusedVariables false
namespace Go.Proofs.YtlobhcgbmpcdlaaGreatDoor.R
open Go Go.Bm Go.Proofs Go.RowKit
theorem c8H : a8h Tryz.prog T 69 := by
 intro d y h
 change List UInt8 at d
 change List UInt8 at y
 have h : some (a1t d) = some y := h
 cases h
 refine ⟨⟨_, Tryz.func57, by kernel_rfl, by kernel_rfl⟩, fun w Φ vs γ hg hi => ?_⟩
 have hv : F2 w Φ γ [] [.one (.str d), .one (.fn 58 [] [])] vs := hi.I9
 obtain ⟨v1, vs1, rfl, ⟨s, rfl, hs⟩, v2, vs2, rfl, ⟨us, vs', rfl, hxs, hys⟩, rfl⟩ := hv
 obtain rfl : us = #[] := by simpa [a3X] using hxs
 obtain rfl : vs' = #[] := by simpa [a3X] using hys
 refine (Tryz.row s w).mono fun e w' h => ?_
 obtain ⟨⟨t, he, ht⟩, hb⟩ := h
 subst he
 exact ⟨Φ, fun _ => none, [.string t], rfl, a6w (T := T.kin 69) (T' := ⟨[], [.one (.pl .str)]⟩) (ds' := [⟨.str, a1t d⟩]) rfl rfl hi hb ⟨_, _, rfl, ⟨t, rfl, by rw [ht, hs]⟩, rfl⟩⟩
theorem c5U : a8h Tryz.prog T 123 := by
 intro d y h
 change Int at d
 change List UInt8 at y
 have h : (bif a4n d then some (I3 d) else none) = some y := h
 obtain ⟨hl, h⟩ := g8 h
 cases h
 simp only [a4n, Bool.and_eq_true, decide_eq_true_eq] at hl
 refine ⟨⟨_, Tryz.func150, by kernel_rfl, by kernel_rfl⟩, fun w Φ vs γ hg hi => ?_⟩
 have hv : F2 w Φ γ [] [.one (.int .i64 d)] vs := hi.I9
 obtain ⟨v1, vs1, rfl, rfl, rfl⟩ := hv
 have hg : c0H Tryz.prog 0 1 w Φ := hg
 refine (Tryz.a3Q d hl.1 hl.2 w hg.2.2.2).mono fun e w' h => ?_
 obtain ⟨he, k, os, hw⟩ := h
 subst he
 have hb : Below w.heap.size w w' := by
  subst hw
  exact ⟨rfl, rfl, rfl, by simp [Sort.grow], fun b hb => by show (w.heap ++ os)[b]? = _; rw [Array.getElem?_append_left hb]⟩
 exact ⟨Φ, fun _ => none, [.string ⟨(Lib.itoa d).toArray⟩], rfl, a6w (T := T.kin 123) (T' := ⟨[], [.one (.pl .str)]⟩) (ds' := [⟨.str, I3 d⟩]) rfl rfl hi hb ⟨_, _, rfl, ⟨⟨(Lib.itoa d).toArray⟩, rfl, by simp [b6T hl.1 hl.2]⟩, rfl⟩⟩
theorem c5V : a8h Tryz.prog T 130 := by
 intro d y h
 change List (Int × List UInt8 × Int) at d
 change List UInt8 at y
 have h : (bif Nat.ble (s5 d).length j4 then some (s5 d) else none) = some y := h
 obtain ⟨hl, h⟩ := g8 h
 cases h
 have hl := Nat.le_of_ble_eq_true hl
 refine ⟨⟨_, Tryz.func21, by kernel_rfl, by kernel_rfl⟩, fun w Φ vs γ hg hi => ?_⟩
 have hv : F2 w Φ γ [] [.one (.list (.prod (.int .i64) (.prod .str (.int .i64))) d)] vs := hi.I9
 obtain ⟨v1, vs1, rfl, ⟨a, cap, e1, hlc, hrow⟩, rfl⟩ := hv
 simp only [List.cons.injEq, and_true] at e1
 subst e1
 refine (Tryz.join d a cap w hl (fun k x hx => ?_)).mono fun e w' h => ?_
 · rcases hrow with h0 | ⟨b, o, rfl, hb, hat⟩
   · rw [h0] at hx; simp at hx
   · obtain ⟨us, hu, v, vs', rfl, h1, v2, vs2, rfl, h2, h3⟩ := hat k x (by rw [nth_getElem?]; exact hx)
     cases h1
     obtain ⟨s, e2, hs⟩ := h2
     cases h3
     simp only [List.cons.injEq, and_true] at e2
     subst e2
     exact ⟨b, o, s, rfl, hi.hp.flt b hb, hs, hu.1, hu.2.1, hu.2.2.1⟩
 · obtain ⟨he, hb⟩ := h
   subst he
   exact ⟨Φ, fun _ => none, [.string ⟨(s5 d).toArray⟩], rfl, a6w (T := T.kin 130) (T' := ⟨[], [.one (.pl .str)]⟩) (ds' := [⟨.str, s5 d⟩]) rfl rfl hi hb ⟨_, _, rfl, ⟨⟨(s5 d).toArray⟩, rfl, by simp⟩, rfl⟩⟩
theorem ok' : T.Ok Tryz.prog := ok (c5W c8H c5U c5V)
end Go.Proofs.YtlobhcgbmpcdlaaGreatDoor.R
end
section
set_option linter.unusedVariables false
set_option linter.unusedSimpArgs false
namespace Go.Bm
open Go.ChangeShapes Go.WideShapes Go.ChangeAt Go.RowKit
theorem b2s {P : Program} {W : World} {t e : TypeId} {fuel : Nat} {cs : List Value} {l : List (List UInt8)} {p : List MemPlace} (hl : l ≠ []) (ht : P.underlying t = some (.slice e)) (he : P.underlying e = some .string) (hce : P.cellsOf e = 1)
  (h : DataW.trod (fun _ => ()) P W 0 (fun _ => true) false fuel t cs = some (.slice (l.map fun s => .lit (.string s)) [], p)) : VC W (fun b => b < W.heap.size) (.list .str) l cs := by
 rcases DataW.trod_slice ht h with ⟨_, hx⟩ | ⟨a, len, cap, elems, rest, m, _, rfl, hx, hb, hlc, hcm, hel, hels, _⟩
 · cases hx
 · simp only [Prod.mk.injEq, DataW.slice.injEq] at hx
   have hmap := hx.1.1
   have hlen : l.length = len := by have := congrArg List.length hmap; simpa [hel] using this
   have each : ∀ i x, l[i]? = some x → W.cell? (a.add i) ≠ none ∧ ∃ s : ByteArray, s.data.toList = x ∧ W.cell? (a.add i) = some (.string s) := by
    intro i x hix
    have hi : i < len := by rw [← hlen]; exact (List.getElem?_eq_some_iff.1 hix).1
    have h1 := hels i hi
    have h2 : elems[i]? = some elems[i] := List.getElem?_eq_getElem (by omega)
    rw [h2] at h1
    obtain ⟨cs, hcs, htr⟩ := Option.bind_eq_some_iff.1 h1
    obtain ⟨k1, k2⟩ := a6m hcs
    obtain ⟨s, rfl, e2, _⟩ := DataW.trod_string he htr
    have h3 : (elems.map (·.1))[i]? = some (.lit (.string x)) := by rw [← hmap, List.getElem?_map, hix]; rfl
    rw [List.getElem?_map, h2] at h3
    simp only [Option.map_some, Option.some.injEq] at h3
    rw [e2] at h3
    simp only [DataW.lit.injEq, Lit.string.injEq] at h3
    have h4 := k2 0 (by rw [hce]; exact Nat.one_pos)
    have h5 : (a.add (i * P.cellsOf e)).add 0 = a.add i := by rw [hce]; simp [Addr.add]
    rw [h5] at h4
    exact ⟨by rw [h4]; simp, s, h3, by rw [h4]; rfl⟩
   have h0 : ∃ x, l[0]? = some x := by
    cases l with
    | nil => exact absurd rfl hl
    | cons x r => exact ⟨x, rfl⟩
   obtain ⟨x0, hx0⟩ := h0
   obtain ⟨_, s0, _, hc0⟩ := each 0 x0 hx0
   obtain ⟨k1, k2⟩ := a4f hc0
   obtain ⟨ab, ao, asp⟩ := a
   have hsp : asp = none := by simpa [Addr.add] using k1
   subst hsp
   refine ⟨some ⟨ab, ao, none⟩, cap, by rw [hlen], by omega, .inr ⟨ab, ao, rfl, by simpa [Addr.add] using k2, fun i x hx => ?_⟩⟩
   rw [nth_getElem?] at hx
   obtain ⟨_, s, e1, e2⟩ := each i x hx
   rw [Addr.P7] at e2
   exact ⟨[.string s], ⟨by simpa [CT.size] using e2, trivial⟩, s, rfl, e1⟩
theorem b0A {P : Program} {W : World} {n : String} {g : Nat} {cs : Array Value} (hg : P.globalNamed n = some g) (hv : W.var? P n = some cs) : l6 W g 0 cs.toList := by
 refine E4 _ _ _ fun j v hj => ?_
 have := World.var?_cell hg hv j
 rw [Nat.zero_add, this]
 simpa using hj
end Go.Bm
namespace Go.Proofs.YtlobhcgbmpcdlaaGreatDoor
open Go.Bm Go.ChangeShapes Go.WideShapes Go.ChangeAt Go.RowKit
set_option maxRecDepth 100000 in
theorem of_laid {W : World} (h : laidMetH Tryz.prog [("math/bits.deBruijn32tab", Rows.laid_math_bits_deBruijn32tab), ("math/bits.deBruijn64tab", Rows.laid_math_bits_deBruijn64tab), ("internal/strconv.uint64pow10", Rows.laid_internal_strconv_uint64pow10), ("bailment/lex.words", Rows.laid_bailment_lex_words)] W) :
  c0H Tryz.prog 0 1 W (fun b => b < W.heap.size) := by
 rw [MakeChecks.laidMetH_plain _ _ _ (by kernel_rfl)] at h
 have h2 : laidMet Tryz.prog (("internal/strconv.uint64pow10", Lib.tabData .u64 Lib.pow10Tab) :: [("bailment/lex.words", .slice (o7.map fun s => .lit (.string s)) [])]) W := h.tail.tail
 have g0 : Tryz.prog.globalNamed "bailment/lex.words" = some 0 := by kernel_rfl
 have g1 : Tryz.prog.globalNamed "internal/strconv.uint64pow10" = some 1 := by kernel_rfl
 have htab : Lib.TabIs Tryz.prog W "internal/strconv.uint64pow10" .u64 Lib.pow10Tab :=
  Lib.tabIs_of_head (t := 198) (n := 20) g1 (by kernel_rfl) Tryz.underlying198 (by kernel_rfl) (by kernel_rfl) (by kernel_rfl) h2
 obtain ⟨ps, ⟨g, t, cs, fuel, p, q, hg, ht, hv, hd, _, _⟩, _⟩ := h2.tail
 obtain rfl := Option.some.inj (g0.symm.trans hg)
 obtain rfl := Option.some.inj ((show (Tryz.prog.globals[0]?).map (·.type) = some 86 by kernel_rfl).symm.trans ht)
 have hvc := b2s (by decide) Tryz.underlying86 Tryz.underlying9 (by kernel_rfl) hd
 have hca := b0A g0 hv
 have lt : ∀ (g : Nat) (n : String) (cs : Array Value), Tryz.prog.globalNamed n = some g → W.var? Tryz.prog n = some cs → g < W.heap.size := by
  intro g n cs hg hv
  unfold World.var? at hv
  rw [hg] at hv
  simp only [Option.bind_some] at hv
  rcases Nat.lt_or_ge g W.heap.size with h | h
  · exact h
  · rw [Array.getElem?_eq_none h] at hv; cases hv
 refine ⟨fun g d hgd => ?_, lt 1 _ _ g1 htab, g1, htab⟩
 rw [j5] at hgd
 split at hgd
 · rename_i e
   subst e
   cases hgd
   exact ⟨lt 0 _ _ g0 hv, cs.toList, hca, hvc⟩
 · cases hgd
end Go.Proofs.YtlobhcgbmpcdlaaGreatDoor
end
