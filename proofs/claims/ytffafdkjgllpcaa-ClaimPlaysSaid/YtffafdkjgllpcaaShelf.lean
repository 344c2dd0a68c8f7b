/-
  DERIVED: THE SHELF's CONTRACTS AT THIS DUMP, IN PLAIN WORDS (tools/lay-plain.mjs out of a module, which tools/lay-shelf.mjs wrote): THE SAME DECLARATIONS UNDER THE SAME NAMES: 'import', 'namespace', 'open', 'def', 'theorem' AND NOTHING ELSE: no command of the shelf's: FOR A HAND-IN. Each laying: the table of numbers ('.._ren') and one theorem, a field a fact of the dump's own or the kernel's comparison; each contract: ONE APPLICATION.
-/
import Derived.Ground.SlgmProg
import Derived.Shelf.SortM.Plain
import Derived.Shelf.SortM.SortNone
import Derived.Test.YtffafdkjgllpcaaProg
namespace Go.Proofs
open Go.Shelf
def Try.laysSlM5_f39_ren : Go.Shelf.Ren := ⟨fun | 5 => 39 | 8 => 42 | 7 => 41 | 19 => 52 | 20 => 53 | 10 => 43 | 11 => 44 | 12 => 45 | 13 => 46 | 14 => 47 | 15 => 48 | 16 => 49 | 17 => 50 | 18 => 51 | 30 => 54 | 31 => 55 | 32 => 56 | 33 => 57 | 34 => 58 | 35 => 59 | 40 => 60 | n => n, fun | 23 => 22 | 25 => 3 | 3 => 3 | 32 => 64 | 22 => 22 | 0 => 0 | 44 => 75 | 46 => 77 | 4 => 4 | 36 => 67 | 35 => 66 | 41 => 72 | 5 => 5 | 9 => 9 | 53 => 78 | 57 => 82 | 63 => 84 | 64 => 85 | n => n, fun | n => n⟩
theorem Try.laysSlM5_f39 : Go.Proofs.SlLaysM.n5 Try.prog Try.laysSlM5_f39_ren := {
  mixed := by kernel_rfl
  f5 := ⟨Try.f39.name, by decide, Try.func39.trans (congrArg some (by kernel_rfl))⟩
  f7 := ⟨Try.f41.name, by decide, Try.func41.trans (congrArg some (by kernel_rfl))⟩
  f8 := Try.func42.trans (congrArg some (by kernel_rfl))
  f10 := ⟨Try.f43.name, by decide, Try.func43.trans (congrArg some (by kernel_rfl))⟩
  f11 := ⟨Try.f44.name, by decide, Try.func44.trans (congrArg some (by kernel_rfl))⟩
  f12 := ⟨Try.f45.name, by decide, Try.func45.trans (congrArg some (by kernel_rfl))⟩
  f13 := ⟨Try.f46.name, by decide, Try.func46.trans (congrArg some (by kernel_rfl))⟩
  f14 := ⟨Try.f47.name, by decide, Try.func47.trans (congrArg some (by kernel_rfl))⟩
  f15 := ⟨Try.f48.name, by decide, Try.func48.trans (congrArg some (by kernel_rfl))⟩
  f16 := ⟨Try.f49.name, by decide, Try.func49.trans (congrArg some (by kernel_rfl))⟩
  f17 := ⟨Try.f50.name, by decide, Try.func50.trans (congrArg some (by kernel_rfl))⟩
  f18 := ⟨Try.f51.name, by decide, Try.func51.trans (congrArg some (by kernel_rfl))⟩
  f19 := Try.func52.trans (congrArg some (by kernel_rfl))
  f20 := Try.func53.trans (congrArg some (by kernel_rfl))
  f30 := ⟨Try.f54.name, by decide, Try.func54.trans (congrArg some (by kernel_rfl))⟩
  f31 := Try.func55.trans (congrArg some (by kernel_rfl))
  f32 := Try.func56.trans (congrArg some (by kernel_rfl))
  f33 := ⟨Try.f57.name, by decide, Try.func57.trans (congrArg some (by kernel_rfl))⟩
  f34 := ⟨Try.f58.name, by decide, Try.func58.trans (congrArg some (by kernel_rfl))⟩
  f35 := ⟨Try.f59.name, by decide, Try.func59.trans (congrArg some (by kernel_rfl))⟩
  f40 := ⟨Try.f60.name, by decide, Try.func60.trans (congrArg some (by kernel_rfl))⟩
  t0 := Try.underlying0
  a0 := Try.isAgg0
  z0 := Try.sizeOf0
  v0 := Try.zeroValue0
  t3 := Try.underlying3
  a3 := Try.isAgg3
  z3 := Try.sizeOf3
  v3 := Try.zeroValue3
  t4 := Try.underlying4
  a4 := Try.isAgg4
  z4 := Try.sizeOf4
  v4 := Try.zeroValue4
  t5 := Try.underlying5
  a5 := Try.isAgg5
  z5 := Try.sizeOf5
  v5 := Try.zeroValue5
  t9 := Try.underlying9
  a9 := Try.isAgg9
  z9 := Try.sizeOf9
  v9 := Try.zeroValue9
  t22 := Try.underlying22
  a22 := Try.isAgg22
  z22 := Try.sizeOf22
  v22 := Try.zeroValue22
  t23 := Try.underlying22
  a23 := Try.isAgg22
  z23 := Try.sizeOf22
  v23 := Try.zeroValue22
  t25 := Try.underlying3
  a25 := Try.isAgg3
  z25 := Try.sizeOf3
  v25 := Try.zeroValue3
  t32 := Try.underlying64
  a32 := Try.isAgg64
  z32 := Try.sizeOf64
  v32 := Try.zeroValue64
  t35 := Try.underlying66
  a35 := Try.isAgg66
  z35 := Try.sizeOf66
  v35 := Try.zeroValue66
  t36 := Try.underlying67
  a36 := Try.isAgg67
  z36 := Try.sizeOf67
  v36 := Try.zeroValue67
  t41 := Try.underlying72
  a41 := Try.isAgg72
  z41 := Try.sizeOf72
  v41 := Try.zeroValue72
  t44 := Try.underlying75
  a44 := Try.isAgg75
  z44 := Try.sizeOf75
  v44 := Try.zeroValue75
  t46 := Try.underlying77
  a46 := Try.isAgg77
  z46 := Try.sizeOf77
  v46 := Try.zeroValue77
  t53 := Try.underlying78
  a53 := Try.isAgg78
  z53 := Try.sizeOf78
  v53 := Try.zeroValue78
  t57 := Try.underlying82
  a57 := Try.isAgg82
  z57 := Try.sizeOf82
  v57 := Try.zeroValue82
  t63 := Try.underlying84
  a63 := Try.isAgg84
  z63 := Try.sizeOf84
  v63 := Try.zeroValue84
  t64 := Try.underlying85
  a64 := Try.isAgg85
  z64 := Try.sizeOf85
  v64 := Try.zeroValue85 }
open Go.Sort Go.RowKit in
theorem Try.slices_Sort_int (blk off cap : Nat) (zs : List Int) (w : World) (hH : Holds (Value.int .i64) w blk off zs.toArray) (hblk : blk < w.heap.size) (hsz : zs.length < 4611686018427387904) :
    Calls Try.prog 39 #[.slice (some ⟨blk, off, none⟩) zs.length cap] w fun e w' =>
      e = .returned (.tuple #[]) ∧ ∃ n os, w' = grow (putRow (Value.int .i64) (Sort.ahead w n) blk off (zs.mergeSort fun x y => decide (x ≤ y)).toArray) os := AnyM.slices_Sort_int Try.laysSlM5_f39 blk off cap zs w hH hblk hsz
open Go.RowKit Go.Sort in
/-- .. and plain. (LAID AT THE INSTANCE 'slices.Sort[[]int,int]': no walk: one application.) -/
theorem Try.slices_Sort_int_none (p : Option Addr) (cap : Nat) (w : World) :
    Calls Try.prog 39 #[.slice p 0 cap] w fun e w' => e = .returned (.tuple #[]) ∧ w' = w := AnyM.slices_Sort_int_none Try.laysSlM5_f39 p cap w
end Go.Proofs
