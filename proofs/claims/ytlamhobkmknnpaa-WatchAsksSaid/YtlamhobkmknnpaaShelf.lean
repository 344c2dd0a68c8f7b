/-
  DERIVED: THE SHELF's CONTRACTS AT THIS DUMP, IN PLAIN WORDS (tools/lay-plain.mjs out of a module, which tools/lay-shelf.mjs wrote): THE SAME DECLARATIONS UNDER THE SAME NAMES: 'import', 'namespace', 'open', 'def', 'theorem' AND NOTHING ELSE: no command of the shelf's: FOR A HAND-IN. Each laying: the table of numbers ('.._ren') and one theorem, a field a fact of the dump's own or the kernel's comparison; each contract: ONE APPLICATION.
-/
import Derived.Shelf.SlGeneric
import Derived.Shelf.SlIterI.Nil
import Derived.Shelf.Spec.SlicesGrow
import Derived.Ground.GgzProg
import Derived.Shelf.Small.Bits
import Derived.Shelf.Strconv.Itoa0
import Derived.Ground.Names2Prog
import Derived.Shelf.Slices.Clone
import Derived.Shelf.Slices.SearchI
import Derived.Ground.SlgnProg
import Derived.Shelf.SlicesE.Clone
import Derived.Ground.SlgfProg
import Derived.Shelf.SlicesE.IndexFunc
import Derived.Shelf.SlicesE.DeleteFunc
import Derived.Ground.SlgmProg
import Derived.Shelf.SortM.Plain
import Derived.Shelf.SortM.SortNone
import Derived.Test.YtlamhobkmknnpaaProg
namespace Go.Proofs
open Go.Shelf
def Try.lays128_ren : Go.Shelf.Ren := ⟨fun | 128 => 64 | n => n, fun | 51 => 83 | 3 => 3 | 4 => 4 | 46 => 74 | 5 => 5 | 9 => 9 | n => n, fun | n => n⟩
theorem Try.lays128 : Go.Proofs.Lays.n128 Try.prog Try.lays128_ren := {
  mixed := by kernel_rfl
  f128 := Try.func64.trans (congrArg some (by kernel_rfl))
  t3 := Try.underlying3
  a3 := Try.isAgg3
  z3 := Try.sizeOf3
  v3 := Try.zeroValue3
  t4 := Try.underlying4
  a4 := Try.isAgg4
  z4 := Try.sizeOf4
  v4 := Try.zeroValue4
  t5 := Try.underlying5
  a5 := Try.isAgg5
  z5 := Try.sizeOf5
  v5 := Try.zeroValue5
  t9 := Try.underlying9
  a9 := Try.isAgg9
  z9 := Try.sizeOf9
  v9 := Try.zeroValue9
  t46 := Try.underlying74
  a46 := Try.isAgg74
  z46 := Try.sizeOf74
  v46 := Try.zeroValue74
  t51 := Try.underlying83
  a51 := Try.isAgg83
  z51 := Try.sizeOf83
  v51 := Try.zeroValue83 }
/-- bits.Len32: "Len32 returns the minimum number of bits required to represent x; the result is 0 for x == 0.": IT RETURNS 'Lib.bitLen x'; the world is as it was. ('h0', 'h1': x is a uint32.) (LAID: no walk: one application.) -/
theorem Try.bits_Len32 (x : Int) (w : World) (h0 : 0 ≤ x) (h1 : x ≤ 4294967295) :
    Calls Try.prog 64 #[.int .u32 x] w fun e w' => e = .returned (.int .i64 (Lib.bitLen x.toNat)) ∧ w' = w := Any.bits_Len32 Try.lays128 x w h0 h1
def Try.lays125_ren : Go.Shelf.Ren := ⟨fun | 125 => 54 | 128 => 64 | 129 => 65 | n => n, fun | 46 => 74 | 3 => 3 | 51 => 83 | 53 => 85 | 4 => 4 | 5 => 5 | 9 => 9 | n => n, fun | n => n⟩
theorem Try.lays125 : Go.Proofs.Lays.n125 Try.prog Try.lays125_ren := {
  mixed := by kernel_rfl
  f125 := Try.func54.trans (congrArg some (by kernel_rfl))
  f128 := Try.func64.trans (congrArg some (by kernel_rfl))
  f129 := Try.func65.trans (congrArg some (by kernel_rfl))
  t3 := Try.underlying3
  a3 := Try.isAgg3
  z3 := Try.sizeOf3
  v3 := Try.zeroValue3
  t4 := Try.underlying4
  a4 := Try.isAgg4
  z4 := Try.sizeOf4
  v4 := Try.zeroValue4
  t5 := Try.underlying5
  a5 := Try.isAgg5
  z5 := Try.sizeOf5
  v5 := Try.zeroValue5
  t9 := Try.underlying9
  a9 := Try.isAgg9
  z9 := Try.sizeOf9
  v9 := Try.zeroValue9
  t46 := Try.underlying74
  a46 := Try.isAgg74
  z46 := Try.sizeOf74
  v46 := Try.zeroValue74
  t51 := Try.underlying83
  a51 := Try.isAgg83
  z51 := Try.sizeOf83
  v51 := Try.zeroValue83
  t53 := Try.underlying85
  a53 := Try.isAgg85
  z53 := Try.sizeOf85
  v53 := Try.zeroValue85 }
/-- bits.Len: "Len returns the minimum number of bits required to represent x; the result is 0 for x == 0.": IT RETURNS 'Lib.bitLen x'; the world is as it was. (A uint has 64 bits in the model.) ITS CALLEE bits.Len64 IS MET BY ITS OWN CONTRACT OFF THE SHELF (lay that first). (LAID: no walk: one application.) -/
theorem Try.bits_Len (x : Int) (w : World) (h0 : 0 ≤ x) (h1 : x ≤ 18446744073709551615) :
    Calls Try.prog 54 #[.int .u64 x] w fun e w' => e = .returned (.int .i64 (Lib.bitLen x.toNat)) ∧ w' = w := Any.bits_Len Try.lays125 x w h0 h1
def Try.lays129_ren : Go.Shelf.Ren := ⟨fun | 129 => 65 | n => n, fun | 53 => 85 | 3 => 3 | 4 => 4 | 46 => 74 | 5 => 5 | 9 => 9 | n => n, fun | n => n⟩
theorem Try.lays129 : Go.Proofs.Lays.n129 Try.prog Try.lays129_ren := {
  mixed := by kernel_rfl
  f129 := Try.func65.trans (congrArg some (by kernel_rfl))
  t3 := Try.underlying3
  a3 := Try.isAgg3
  z3 := Try.sizeOf3
  v3 := Try.zeroValue3
  t4 := Try.underlying4
  a4 := Try.isAgg4
  z4 := Try.sizeOf4
  v4 := Try.zeroValue4
  t5 := Try.underlying5
  a5 := Try.isAgg5
  z5 := Try.sizeOf5
  v5 := Try.zeroValue5
  t9 := Try.underlying9
  a9 := Try.isAgg9
  z9 := Try.sizeOf9
  v9 := Try.zeroValue9
  t46 := Try.underlying74
  a46 := Try.isAgg74
  z46 := Try.sizeOf74
  v46 := Try.zeroValue74
  t53 := Try.underlying85
  a53 := Try.isAgg85
  z53 := Try.sizeOf85
  v53 := Try.zeroValue85 }
/-- bits.Len64: "Len64 returns the minimum number of bits required to represent x; the result is 0 for x == 0.": IT RETURNS 'Lib.bitLen x'; the world is as it was. ('h0', 'h1': x is a uint64.) (LAID: no walk: one application.) -/
theorem Try.bits_Len64 (x : Int) (w : World) (h0 : 0 ≤ x) (h1 : x ≤ 18446744073709551615) :
    Calls Try.prog 65 #[.int .u64 x] w fun e w' => e = .returned (.int .i64 (Lib.bitLen x.toNat)) ∧ w' = w := Any.bits_Len64 Try.lays129 x w h0 h1
def Try.laysNm215_ren : Go.Shelf.Ren := ⟨fun | 15 => 31 | n => n, fun | 22 => 23 | 3 => 3 | 4 => 4 | n => n, fun | n => n⟩
theorem Try.laysNm215 : Go.Proofs.Lays2.n15 Try.prog Try.laysNm215_ren := {
  mixed := by kernel_rfl
  f15 := Try.func31.trans (congrArg some (by kernel_rfl))
  t3 := Try.underlying3
  a3 := Try.isAgg3
  z3 := Try.sizeOf3
  v3 := Try.zeroValue3
  t4 := Try.underlying4
  a4 := Try.isAgg4
  z4 := Try.sizeOf4
  v4 := Try.zeroValue4
  t22 := Try.underlying23
  a22 := Try.isAgg23
  z22 := Try.sizeOf23
  v22 := Try.zeroValue23
  i3 := by kernel_rfl }
open Go.RowKit Go.Lib in
/-- slices.Clone at []int: "Clone returns a copy of the slice. The elements are copied using assignment, so this is a shallow clone. The result may have additional unused capacity. The result preserves the nilness of s.": OF A SLICE THAT IS NOT nil IT RETURNS A SLICE THAT IS NOT nil, OF THE SAME ELEMENTS, IN MEMORY OF THE CALL's OWN: in the how-to's words (6f): 'w'.ownsRow B e 1 v' n cells': v' begins at the head of a row among the blocks from B on (B: the heap's size at the call), not frozen, whose first cells are the elements · 'Below B w w'': below B all is as it was. The capacity is whatever the run-time gives. 'zs': what the cells behind the slice's address hold; 'zs.take n': its elements. (LAID: no walk: one application.) -/
theorem Try.slices_Clone_int (b off n c : Nat) (zs : List Int) (w : World) (hz : n ≤ zs.length) (hbig : n * 8 ≤ 140737488355328) (hc : ∀ j, j < zs.length → w.cell? ⟨b, off + j, none⟩ = some (.int .i64 (zs.getD j 0))) :
    Calls Try.prog 31 #[.slice (some ⟨b, off, none⟩) n c] w fun e w' => ∃ v', e = .returned v' ∧ w'.ownsRow w.heap.size 3 1 v' n ((zs.take n).map (Value.int .i64)) ∧ v' ≠ .slice none 0 0 ∧ Below w.heap.size w w' := Any.slices_Clone_int Try.laysNm215 b off n c zs w hz hbig hc
open Go.RowKit Go.Lib in
/-- The same at nil: nil comes back; the world is as it was. (LAID: no walk: one application.) -/
theorem Try.slices_Clone_int_nil (n c : Nat) (w : World) :
    Calls Try.prog 31 #[.slice none n c] w fun e w' => e = .returned (.slice none 0 0) ∧ w' = w := Any.slices_Clone_int_nil Try.laysNm215 n c w
open Go.RowKit Go.Lib in
/-- The same at a slice of length 0 that is not nil, WHATEVER ITS ADDRESS (no cell is asked for): a slice that is not nil and owns nothing comes back. (LAID: no walk: one application.) -/
theorem Try.slices_Clone_int_zero (a : Addr) (c : Nat) (w : World) :
    Calls Try.prog 31 #[.slice (some a) 0 c] w fun e w' => ∃ v', e = .returned v' ∧ w'.ownsRow w.heap.size 3 1 v' 0 [] ∧ v' ≠ .slice none 0 0 ∧ Below w.heap.size w w' := Any.slices_Clone_int_zero Try.laysNm215 a c w
def Try.laysNm237_ren : Go.Shelf.Ren := ⟨fun | 37 => 71 | n => n, fun | 3 => 3 | 4 => 4 | n => n, fun | n => n⟩
theorem Try.laysNm237 : Go.Proofs.Lays2.n37 Try.prog Try.laysNm237_ren := {
  mixed := by kernel_rfl
  f37 := Try.func71.trans (congrArg some (by kernel_rfl))
  t3 := Try.underlying3
  a3 := Try.isAgg3
  z3 := Try.sizeOf3
  v3 := Try.zeroValue3
  t4 := Try.underlying4
  a4 := Try.isAgg4
  z4 := Try.sizeOf4
  v4 := Try.zeroValue4 }
open Go.RowKit Go.Lib in
/-- cmp.isNaN[int]: 'x != x': false. (LAID: no walk: one application.) -/
theorem Try.cmp_isNaN_int2 (x : Int) (w : World) :
    Calls Try.prog 71 #[.int .i64 x] w fun e w' => e = .returned (.bool false) ∧ w' = w := Any.cmp_isNaN_int2 Try.laysNm237 x w
def Try.laysNm231_ren : Go.Shelf.Ren := ⟨fun | 31 => 61 | 37 => 71 | n => n, fun | 3 => 3 | 4 => 4 | n => n, fun | n => n⟩
theorem Try.laysNm231 : Go.Proofs.Lays2.n31 Try.prog Try.laysNm231_ren := {
  mixed := by kernel_rfl
  f31 := Try.func61.trans (congrArg some (by kernel_rfl))
  f37 := Try.func71.trans (congrArg some (by kernel_rfl))
  t3 := Try.underlying3
  a3 := Try.isAgg3
  z3 := Try.sizeOf3
  v3 := Try.zeroValue3
  t4 := Try.underlying4
  a4 := Try.isAgg4
  z4 := Try.sizeOf4
  v4 := Try.zeroValue4 }
open Go.RowKit Go.Lib in
/-- cmp.Less[int]: "Less reports whether x is less than y.": 'x < y'; the world is as it was. (LAID: no walk: one application.) -/
theorem Try.cmp_Less_int2 (x y : Int) (w : World) :
    Calls Try.prog 61 #[.int .i64 x, .int .i64 y] w fun e w' => e = .returned (.bool (decide (x < y))) ∧ w' = w := Any.cmp_Less_int2 Try.laysNm231 x y w
def Try.laysSlE041_f31_ren : Go.Shelf.Ren := ⟨fun | 41 => 31 | n => n, fun | 22 => 23 | 23 => 3 | 4 => 4 | n => n, fun | n => n⟩
theorem Try.laysSlE041_f31 : Go.Proofs.SlLaysE0.n41 Try.prog Try.laysSlE041_f31_ren := {
  mixed := by kernel_rfl
  f41 := ⟨Try.f31.name, by decide, Try.func31.trans (congrArg some (by kernel_rfl))⟩
  t4 := Try.underlying4
  a4 := Try.isAgg4
  z4 := Try.sizeOf4
  v4 := Try.zeroValue4
  t22 := Try.underlying23
  a22 := Try.isAgg23
  z22 := Try.sizeOf23
  v22 := Try.zeroValue23 }
open Go.RowKit Go.Lib in
/-- slices.Clone: "Clone returns a copy of the slice. The elements are copied using assignment, so this is a shallow clone. The result may have additional unused capacity. The result preserves the nilness of s.": OF A SLICE THAT IS NOT nil IT RETURNS A SLICE THAT IS NOT nil, OF THE SAME CELLS, IN MEMORY OF THE CALL's OWN ('ownsRow': the how-to's 6f); below the heap's size at the call all is as it was. (LAID AT THE INSTANCE 'slices.Clone[[]int,int]': no walk: one application.) -/
theorem Try.slices_Clone (i0 : TypeInfo) (z : Value) (size bytes : Nat) (hi : Try.prog.info? 3 = some i0) (hz0 : i0.zero = some z) (hz1 : i0.size = size) (hz2 : i0.bytes = bytes) (hzs : z.cells.size = size) (hsz : 0 < size) (z23 : ∀ w, (Go.sizeOf 3).run Try.prog w = .ok size w) (b off n c : Nat) (news : List Value) (w : World) (hl : news.length = n * size) (hn : n ≤ maxLen) (hbig : n * bytes ≤ 140737488355328) (hc : ∀ j u, news[j]? = some u → w.cell? ⟨b, off + j, none⟩ = some u) (h1 : ∀ u ∈ news, u.oneCell' = true) :
    Calls Try.prog 31 #[.slice (some ⟨b, off, none⟩) n c] w fun e w' => ∃ v', e = .returned v' ∧ w'.ownsRow w.heap.size 3 size v' n news ∧ v' ≠ .slice none 0 0 ∧ Below w.heap.size w w' := AnyE.slices_Clone Try.laysSlE041_f31 i0 z size bytes hi hz0 hz1 hz2 hzs hsz z23 b off n c news w hl hn hbig hc h1
open Go.RowKit Go.Lib in
/-- The same at nil: nil comes back; the world is as it was; nothing is asked of the element's type. (LAID AT THE INSTANCE 'slices.Clone[[]int,int]': no walk: one application.) -/
theorem Try.slices_Clone_nil (n c : Nat) (w : World) :
    Calls Try.prog 31 #[.slice none n c] w fun e w' => e = .returned (.slice none 0 0) ∧ w' = w := AnyE.slices_Clone_nil Try.laysSlE041_f31 n c w
def Try.laysSlH6_f47_ren : Go.Shelf.Ren := ⟨fun | 6 => 47 | n => n, fun | 22 => 23 | 23 => 3 | 25 => 40 | 3 => 3 | 0 => 0 | 4 => 4 | n => n, fun | n => n⟩
theorem Try.laysSlH6_f47 : Go.Proofs.SlLaysH.n6 Try.prog Try.laysSlH6_f47_ren := {
  mixed := by kernel_rfl
  f6 := ⟨Try.f47.name, by decide, Try.func47.trans (congrArg some (by kernel_rfl))⟩
  t0 := Try.underlying0
  a0 := Try.isAgg0
  z0 := Try.sizeOf0
  v0 := Try.zeroValue0
  t3 := Try.underlying3
  a3 := Try.isAgg3
  z3 := Try.sizeOf3
  v3 := Try.zeroValue3
  t4 := Try.underlying4
  a4 := Try.isAgg4
  z4 := Try.sizeOf4
  v4 := Try.zeroValue4
  t22 := Try.underlying23
  a22 := Try.isAgg23
  z22 := Try.sizeOf23
  v22 := Try.zeroValue23
  a23 := Try.isAgg3
  z23 := Try.sizeOf3
  t25 := Try.underlying40
  a25 := Try.isAgg40
  z25 := Try.sizeOf40
  v25 := Try.zeroValue40 }
open Go.RowKit Go.Lib in
/-- slices.IndexFunc: "IndexFunc returns the first index i satisfying f(s[i]), or -1 if none do." (LAID AT THE INSTANCE 'slices.IndexFunc[[]int,int]': no walk: one application.) -/
theorem Try.slices_IndexFunc {α : Type} [Inhabited α] (enc : α → Value) (p : α → Bool) (g : Nat) (lb : Array Value) (eg : ∀ args w, (callFunc g args).run Try.prog w = .ok (.enter g args) w) (b off n c : Nat) (zs : List α) (w : World) (hp : PredAt Try.prog g lb enc p w) (hz : n ≤ zs.length) (hbig : n ≤ 9223372036854775807) (hc : ∀ j, j < zs.length → w.cell? ⟨b, off + j, none⟩ = some (enc zs[j]!)) :
    Calls Try.prog 47 #[.slice (some ⟨b, off, none⟩) n c, .func (.func g) #[] lb] w fun e w' => e = .returned (.int .i64 (Lib.idxBy (fun _ y => p y) (zs.take n) default)) ∧ ∃ q, w' = w.drewN q := AnyE.slices_IndexFunc Try.laysSlH6_f47 enc p g lb eg b off n c zs w hp hz hbig hc
open Go.RowKit Go.Lib in
/-- The same at a slice of length 0, a nil one too: the predicate is not called: nothing is asked of it. (LAID AT THE INSTANCE 'slices.IndexFunc[[]int,int]': no walk: one application.) -/
theorem Try.slices_IndexFunc_empty {α : Type} [Inhabited α] (a : Option Addr) (c : Nat) (fv : Value) (w : World) :
    Calls Try.prog 47 #[.slice a 0 c, fv] w fun e w' => e = .returned (.int .i64 (-1)) ∧ w' = w := AnyE.slices_IndexFunc_empty Try.laysSlH6_f47 a c fv w
def Try.laysSlH10_f36_ren : Go.Shelf.Ren := ⟨fun | 10 => 36 | 6 => 47 | n => n, fun | 22 => 23 | 23 => 3 | 25 => 40 | 3 => 3 | 4 => 4 | 0 => 0 | n => n, fun | n => n⟩
theorem Try.laysSlH10_f36 : Go.Proofs.SlLaysH.n10 Try.prog Try.laysSlH10_f36_ren := {
  mixed := by kernel_rfl
  f6 := ⟨Try.f47.name, by decide, Try.func47.trans (congrArg some (by kernel_rfl))⟩
  f10 := ⟨Try.f36.name, by decide, Try.func36.trans (congrArg some (by kernel_rfl))⟩
  t0 := Try.underlying0
  a0 := Try.isAgg0
  z0 := Try.sizeOf0
  v0 := Try.zeroValue0
  t3 := Try.underlying3
  a3 := Try.isAgg3
  z3 := Try.sizeOf3
  v3 := Try.zeroValue3
  t4 := Try.underlying4
  a4 := Try.isAgg4
  z4 := Try.sizeOf4
  v4 := Try.zeroValue4
  t22 := Try.underlying23
  a22 := Try.isAgg23
  z22 := Try.sizeOf23
  v22 := Try.zeroValue23
  a23 := Try.isAgg3
  z23 := Try.sizeOf3
  t25 := Try.underlying40
  a25 := Try.isAgg40
  z25 := Try.sizeOf40
  v25 := Try.zeroValue40 }
open Go.RowKit Go.Lib Go.Sort in
theorem Try.slices_DeleteFunc {α : Type} [Inhabited α] (enc : α → Value) (hO : OneCell enc) (p : α → Bool) (g : Nat) (lb : Array Value) (eg : ∀ args w, (callFunc g args).run Try.prog w = .ok (.enter g args) w) (zr : α) (v23 : ∀ w, (zeroValue 3).run Try.prog w = .ok (enc zr) w) (blk off cap : Nat) (d : Array α) (w : World) (hp : PredAt Try.prog g lb enc p w) (hpo : PredOver Try.prog g lb enc p blk off d.size w) (hH : Holds enc w blk off d) (hsz : d.size ≤ 9223372036854775807) (hcap : d.size ≤ cap) :
    Calls Try.prog 36 #[.slice (some ⟨blk, off, none⟩) d.size cap, .func (.func g) #[] lb] w fun e w' => e = .returned (.slice (some ⟨blk, off, none⟩) (d.toList.filter fun x => !p x).length cap) ∧ ∃ q, w' = putRow enc (Sort.ahead w q) blk off ((d.toList.filter fun x => !p x) ++ List.replicate (d.size - (d.toList.filter fun x => !p x).length) zr).toArray := AnyE.slices_DeleteFunc Try.laysSlH10_f36 enc hO p g lb eg zr v23 blk off cap d w hp hpo hH hsz hcap
def Try.laysSlM5_f43_ren : Go.Shelf.Ren := ⟨fun | 5 => 43 | 8 => 54 | 7 => 53 | 19 => 64 | 20 => 65 | 10 => 55 | 11 => 56 | 12 => 57 | 13 => 58 | 14 => 59 | 15 => 60 | 16 => 61 | 17 => 62 | 18 => 63 | 30 => 66 | 31 => 67 | 32 => 68 | 33 => 69 | 34 => 70 | 35 => 71 | 40 => 72 | n => n, fun | 23 => 23 | 25 => 3 | 3 => 3 | 32 => 74 | 22 => 23 | 0 => 0 | 44 => 83 | 46 => 85 | 4 => 4 | 36 => 77 | 35 => 76 | 41 => 53 | 5 => 5 | 9 => 9 | 53 => 86 | 57 => 90 | 63 => 92 | 64 => 93 | n => n, fun | n => n⟩
theorem Try.laysSlM5_f43 : Go.Proofs.SlLaysM.n5 Try.prog Try.laysSlM5_f43_ren := {
  mixed := by kernel_rfl
  f5 := ⟨Try.f43.name, by decide, Try.func43.trans (congrArg some (by kernel_rfl))⟩
  f7 := ⟨Try.f53.name, by decide, Try.func53.trans (congrArg some (by kernel_rfl))⟩
  f8 := Try.func54.trans (congrArg some (by kernel_rfl))
  f10 := ⟨Try.f55.name, by decide, Try.func55.trans (congrArg some (by kernel_rfl))⟩
  f11 := ⟨Try.f56.name, by decide, Try.func56.trans (congrArg some (by kernel_rfl))⟩
  f12 := ⟨Try.f57.name, by decide, Try.func57.trans (congrArg some (by kernel_rfl))⟩
  f13 := ⟨Try.f58.name, by decide, Try.func58.trans (congrArg some (by kernel_rfl))⟩
  f14 := ⟨Try.f59.name, by decide, Try.func59.trans (congrArg some (by kernel_rfl))⟩
  f15 := ⟨Try.f60.name, by decide, Try.func60.trans (congrArg some (by kernel_rfl))⟩
  f16 := ⟨Try.f61.name, by decide, Try.func61.trans (congrArg some (by kernel_rfl))⟩
  f17 := ⟨Try.f62.name, by decide, Try.func62.trans (congrArg some (by kernel_rfl))⟩
  f18 := ⟨Try.f63.name, by decide, Try.func63.trans (congrArg some (by kernel_rfl))⟩
  f19 := Try.func64.trans (congrArg some (by kernel_rfl))
  f20 := Try.func65.trans (congrArg some (by kernel_rfl))
  f30 := ⟨Try.f66.name, by decide, Try.func66.trans (congrArg some (by kernel_rfl))⟩
  f31 := Try.func67.trans (congrArg some (by kernel_rfl))
  f32 := Try.func68.trans (congrArg some (by kernel_rfl))
  f33 := ⟨Try.f69.name, by decide, Try.func69.trans (congrArg some (by kernel_rfl))⟩
  f34 := ⟨Try.f70.name, by decide, Try.func70.trans (congrArg some (by kernel_rfl))⟩
  f35 := ⟨Try.f71.name, by decide, Try.func71.trans (congrArg some (by kernel_rfl))⟩
  f40 := ⟨Try.f72.name, by decide, Try.func72.trans (congrArg some (by kernel_rfl))⟩
  t0 := Try.underlying0
  a0 := Try.isAgg0
  z0 := Try.sizeOf0
  v0 := Try.zeroValue0
  t3 := Try.underlying3
  a3 := Try.isAgg3
  z3 := Try.sizeOf3
  v3 := Try.zeroValue3
  t4 := Try.underlying4
  a4 := Try.isAgg4
  z4 := Try.sizeOf4
  v4 := Try.zeroValue4
  t5 := Try.underlying5
  a5 := Try.isAgg5
  z5 := Try.sizeOf5
  v5 := Try.zeroValue5
  t9 := Try.underlying9
  a9 := Try.isAgg9
  z9 := Try.sizeOf9
  v9 := Try.zeroValue9
  t22 := Try.underlying23
  a22 := Try.isAgg23
  z22 := Try.sizeOf23
  v22 := Try.zeroValue23
  t23 := Try.underlying23
  a23 := Try.isAgg23
  z23 := Try.sizeOf23
  v23 := Try.zeroValue23
  t25 := Try.underlying3
  a25 := Try.isAgg3
  z25 := Try.sizeOf3
  v25 := Try.zeroValue3
  t32 := Try.underlying74
  a32 := Try.isAgg74
  z32 := Try.sizeOf74
  v32 := Try.zeroValue74
  t35 := Try.underlying76
  a35 := Try.isAgg76
  z35 := Try.sizeOf76
  v35 := Try.zeroValue76
  t36 := Try.underlying77
  a36 := Try.isAgg77
  z36 := Try.sizeOf77
  v36 := Try.zeroValue77
  t41 := Try.underlying53
  a41 := Try.isAgg53
  z41 := Try.sizeOf53
  v41 := Try.zeroValue53
  t44 := Try.underlying83
  a44 := Try.isAgg83
  z44 := Try.sizeOf83
  v44 := Try.zeroValue83
  t46 := Try.underlying85
  a46 := Try.isAgg85
  z46 := Try.sizeOf85
  v46 := Try.zeroValue85
  t53 := Try.underlying86
  a53 := Try.isAgg86
  z53 := Try.sizeOf86
  v53 := Try.zeroValue86
  t57 := Try.underlying90
  a57 := Try.isAgg90
  z57 := Try.sizeOf90
  v57 := Try.zeroValue90
  t63 := Try.underlying92
  a63 := Try.isAgg92
  z63 := Try.sizeOf92
  v63 := Try.zeroValue92
  t64 := Try.underlying93
  a64 := Try.isAgg93
  z64 := Try.sizeOf93
  v64 := Try.zeroValue93 }
open Go.Sort Go.RowKit in
theorem Try.slices_Sort_int (blk off cap : Nat) (zs : List Int) (w : World) (hH : Holds (Value.int .i64) w blk off zs.toArray) (hblk : blk < w.heap.size) (hsz : zs.length < 4611686018427387904) :
    Calls Try.prog 43 #[.slice (some ⟨blk, off, none⟩) zs.length cap] w fun e w' =>
      e = .returned (.tuple #[]) ∧ ∃ n os, w' = grow (putRow (Value.int .i64) (Sort.ahead w n) blk off (zs.mergeSort fun x y => decide (x ≤ y)).toArray) os := AnyM.slices_Sort_int Try.laysSlM5_f43 blk off cap zs w hH hblk hsz
open Go.RowKit Go.Sort in
/-- .. and plain. (LAID AT THE INSTANCE 'slices.Sort[[]int,int]': no walk: one application.) -/
theorem Try.slices_Sort_int_none (p : Option Addr) (cap : Nat) (w : World) :
    Calls Try.prog 43 #[.slice p 0 cap] w fun e w' => e = .returned (.tuple #[]) ∧ w' = w := AnyM.slices_Sort_int_none Try.laysSlM5_f43 p cap w
def Try.keysI_ren : Go.Shelf.Ren := ⟨fun | 7 => 30 | 10 => 44 | n => n, fun | 23 => 45 | 26 => 3 | 3 => 3 | 28 => 56 | 0 => 0 | 27 => 55 | 33 => 40 | 4 => 4 | n => n, fun | n => n⟩
theorem Try.keysI : Go.Proofs.SlLaysZI.n7 Try.prog Try.keysI_ren := {
  mixed := by kernel_rfl
  f7 := ⟨Try.f30.name, by decide, Try.func30.trans (congrArg some (by kernel_rfl))⟩
  f10 := ⟨Try.f44.name, by decide, Try.func44.trans (congrArg some (by kernel_rfl))⟩
  t0 := Try.underlying0
  a0 := Try.isAgg0
  z0 := Try.sizeOf0
  v0 := Try.zeroValue0
  t4 := Try.underlying4
  a4 := Try.isAgg4
  z4 := Try.sizeOf4
  v4 := Try.zeroValue4
  t23 := Try.underlying45
  a23 := Try.isAgg45
  z23 := Try.sizeOf45
  v23 := Try.zeroValue45
  t26 := Try.underlying3
  a26 := Try.isAgg3
  z26 := Try.sizeOf3
  v26 := Try.zeroValue3
  t27 := Try.underlying55
  a27 := Try.isAgg55
  z27 := Try.sizeOf55
  v27 := Try.zeroValue55
  t28 := Try.underlying56
  a28 := Try.isAgg56
  z28 := Try.sizeOf56
  v28 := Try.zeroValue56
  t33 := Try.underlying40
  a33 := Try.isAgg40
  z33 := Try.sizeOf40
  v33 := Try.zeroValue40 }
def Try.sortedI_ren : Go.Shelf.Ren := ⟨fun | 6 => 29 | 8 => 42 | 9 => 43 | 11 => 52 | 13 => 54 | 12 => 53 | 23 => 64 | 24 => 65 | 14 => 55 | 15 => 56 | 16 => 57 | 17 => 58 | 18 => 59 | 19 => 60 | 20 => 61 | 21 => 62 | 22 => 63 | 25 => 66 | 26 => 67 | 27 => 68 | 28 => 69 | 29 => 70 | 30 => 71 | 31 => 72 | n => n, fun | 26 => 3 | 28 => 56 | 24 => 23 | 0 => 0 | 3 => 3 | 37 => 74 | 48 => 83 | 50 => 85 | 4 => 4 | 40 => 77 | 39 => 76 | 45 => 53 | 5 => 5 | 9 => 9 | 51 => 86 | 55 => 90 | 57 => 92 | 58 => 93 | 33 => 40 | n => n, fun | n => n⟩
theorem Try.sortedI : Go.Proofs.SlLaysZI.n6 Try.prog Try.sortedI_ren := {
  mixed := by kernel_rfl
  f6 := ⟨Try.f29.name, by decide, Try.func29.trans (congrArg some (by kernel_rfl))⟩
  f8 := ⟨Try.f42.name, by decide, Try.func42.trans (congrArg some (by kernel_rfl))⟩
  f11 := ⟨Try.f52.name, by decide, Try.func52.trans (congrArg some (by kernel_rfl))⟩
  t0 := Try.underlying0
  a0 := Try.isAgg0
  z0 := Try.sizeOf0
  v0 := Try.zeroValue0
  t24 := Try.underlying23
  a24 := Try.isAgg23
  z24 := Try.sizeOf23
  v24 := Try.zeroValue23
  t26 := Try.underlying3
  a26 := Try.isAgg3
  z26 := Try.sizeOf3
  v26 := Try.zeroValue3
  t28 := Try.underlying56
  a28 := Try.isAgg56
  z28 := Try.sizeOf56
  v28 := Try.zeroValue56
  i26 := by kernel_rfl }
def Try.delI_ren : Go.Shelf.Ren := ⟨fun | 10 => 36 | 6 => 47 | n => n, fun | 22 => 23 | 23 => 3 | 25 => 40 | 3 => 3 | 4 => 4 | 0 => 0 | n => n, fun | n => n⟩
theorem Try.delI : Go.Proofs.SlLaysH.n10 Try.prog Try.delI_ren := {
  mixed := by kernel_rfl
  f6 := ⟨Try.f47.name, by decide, Try.func47.trans (congrArg some (by kernel_rfl))⟩
  f10 := ⟨Try.f36.name, by decide, Try.func36.trans (congrArg some (by kernel_rfl))⟩
  t0 := Try.underlying0
  a0 := Try.isAgg0
  z0 := Try.sizeOf0
  v0 := Try.zeroValue0
  t3 := Try.underlying3
  a3 := Try.isAgg3
  z3 := Try.sizeOf3
  v3 := Try.zeroValue3
  t4 := Try.underlying4
  a4 := Try.isAgg4
  z4 := Try.sizeOf4
  v4 := Try.zeroValue4
  t22 := Try.underlying23
  a22 := Try.isAgg23
  z22 := Try.sizeOf23
  v22 := Try.zeroValue23
  a23 := Try.isAgg3
  z23 := Try.sizeOf3
  t25 := Try.underlying40
  a25 := Try.isAgg40
  z25 := Try.sizeOf40
  v25 := Try.zeroValue40 }
def Try.growI_ren : Go.Shelf.Ren := ⟨fun | 4 => 51 | n => n, fun | 22 => 23 | 25 => 3 | 3 => 3 | 4 => 4 | 9 => 9 | 20 => 20 | 0 => 0 | n => n, fun | n => n⟩
theorem Try.growI : Go.Proofs.Lays8.n4 Try.prog Try.growI_ren := {
  mixed := by kernel_rfl
  f4 := ⟨Try.f51.name, by decide, Try.func51.trans (congrArg some (by kernel_rfl))⟩
  t0 := Try.underlying0
  a0 := Try.isAgg0
  z0 := Try.sizeOf0
  v0 := Try.zeroValue0
  t3 := Try.underlying3
  a3 := Try.isAgg3
  z3 := Try.sizeOf3
  v3 := Try.zeroValue3
  t4 := Try.underlying4
  a4 := Try.isAgg4
  z4 := Try.sizeOf4
  v4 := Try.zeroValue4
  t9 := Try.underlying9
  a9 := Try.isAgg9
  z9 := Try.sizeOf9
  v9 := Try.zeroValue9
  t20 := Try.underlying20
  a20 := Try.isAgg20
  z20 := Try.sizeOf20
  v20 := Try.zeroValue20
  t22 := Try.underlying23
  a22 := Try.isAgg23
  z22 := Try.sizeOf23
  v22 := Try.zeroValue23 }
end Go.Proofs
