/- A part of the proof. -/
import Derived.Test.YtgklecfiflhjmaaLayerA
import Derived.Test.YtgklecfiflhjmaaLayerC
import Derived.Test.YtgklecfiflhjmaaProg
import Derived.KernelRfl
import Derived.Shelf.SlSortCmp.WholeK
import Derived.Shelf.SlSortCmp.Whole1
import Derived.Shelf.Sort.Plain
import Derived.Ground.SlsfProg
import Derived.Ground.NamesProg
set_option linter.all false
set_option maxHeartbeats 4000000
set_option maxRecDepth 100000
namespace Go.Proofs.Ytgklecfiflhjmaa
structure PermN (N : Nat) (f : Nat → Nat) : Prop where
 lt : ∀ x, x < N → f x < N
 inj : ∀ x y, x < N → y < N → f x = f y → x = y
def it (f : Nat → Nat) : Nat → Nat → Nat
 | 0, x => x
 | k + 1, x => f (it f k x)
section
variable {N : Nat} {f : Nat → Nat}
def orbGo (f : Nat → Nat) (h : Nat) : Nat → Nat → List Nat
 | 0, _ => []
 | n + 1, x => if x = h then [] else x :: orbGo f h n (f x)
def faceF (f : Nat → Nat) (N h : Nat) : List Nat := h :: orbGo f h N (f h)
def leadB (f : Nat → Nat) (N h : Nat) : Bool := (faceF f N h).all fun y => decide (h ≤ y)
def leadsL (f : Nat → Nat) (N k : Nat) : List Nat := (List.range k).filter (leadB f N)
def facesN (f : Nat → Nat) (N k : Nat) : List (List Nat) := (leadsL f N k).map (faceF f N)
end
end Go.Proofs.Ytgklecfiflhjmaa
namespace Go.Proofs.Ytgklecfiflhjmaa
open Go.Sp
theorem ty :
 ((tAgg Try.prog 2 = some false) ∧ (tSize Try.prog 2 = some 1) ∧ (tZero Try.prog 2 = some (.int .i64 0)) ∧ (tBytes Try.prog 2 = some 8) ∧ (Try.prog.underlying 2 = some (.int .i64)) ∧ (tAgg Try.prog 3 = some false) ∧ (tSize Try.prog 3 = some 1) ∧ (tZero Try.prog 3 = some (.int .i64 0)) ∧ (tBytes Try.prog 3 = some 8) ∧ (Try.prog.underlying 3 = some (.int .i64)) ∧ (tAgg Try.prog 4 = some false) ∧ (tSize Try.prog 4 = some 1) ∧ (tZero Try.prog 4 = some (.bool false)) ∧ (tBytes Try.prog 4 = some 1) ∧ (Try.prog.underlying 4 = some .bool) ∧ (tAgg Try.prog 5 = some false)) ∧
 ((tSize Try.prog 5 = some 1) ∧ (tZero Try.prog 5 = some (.int .u8 0)) ∧ (tBytes Try.prog 5 = some 1) ∧ (Try.prog.underlying 5 = some (.int .u8)) ∧ (tAgg Try.prog 9 = some false) ∧ (tSize Try.prog 9 = some 1) ∧ (tZero Try.prog 9 = some (.string ByteArray.empty)) ∧ (tBytes Try.prog 9 = some 16) ∧ (tAgg Try.prog 21 = some false) ∧ (tSize Try.prog 21 = some 1) ∧ (tZero Try.prog 21 = some (.int .i32 0)) ∧ (tBytes Try.prog 21 = some 4) ∧ (Try.prog.underlying 21 = some (.int .i32)) ∧ (tAgg Try.prog 22 = some false) ∧ (tSize Try.prog 22 = some 1) ∧ (tZero Try.prog 22 = some (.slice none 0 0))) ∧
 ((tBytes Try.prog 22 = some 24) ∧ (tElem Try.prog 22 = some (none, 76)) ∧ (tAgg Try.prog 24 = some true) ∧ (tSize Try.prog 24 = some 2) ∧ (tZero Try.prog 24 = some (.agg #[.int .i64 0, .slice none 0 0])) ∧ (tBytes Try.prog 24 = some 32) ∧ (tField Try.prog 24 0 = some (0, 3)) ∧ (tField Try.prog 24 1 = some (1, 22)) ∧ (tBuild Try.prog 24 = some (.agg #[.int .i64 0, .slice none 0 0], fun i => (#[(0, 1), (1, 1)] : Array (Nat × Nat))[i]?)) ∧ (tAgg Try.prog 27 = some false) ∧ (tSize Try.prog 27 = some 1) ∧ (tZero Try.prog 27 = some (.slice none 0 0)) ∧ (tBytes Try.prog 27 = some 24) ∧ (tElem Try.prog 27 = some (none, 3)) ∧ (tAgg Try.prog 28 = some false) ∧ (tSize Try.prog 28 = some 1)) ∧
 ((tZero Try.prog 28 = some (.int .i64 0)) ∧ (tBytes Try.prog 28 = some 8) ∧ (Try.prog.underlying 28 = some (.int .i64)) ∧ (tAgg Try.prog 34 = some false) ∧ (tSize Try.prog 34 = some 1) ∧ (tZero Try.prog 34 = some (.slice none 0 0)) ∧ (tBytes Try.prog 34 = some 24) ∧ (tElem Try.prog 34 = some (none, 27)) ∧ (tAgg Try.prog 47 = some false) ∧ (tSize Try.prog 47 = some 1) ∧ (tZero Try.prog 47 = some (.slice none 0 0)) ∧ (tBytes Try.prog 47 = some 24) ∧ (tElem Try.prog 47 = some (none, 50)) ∧ (tAgg Try.prog 49 = some false) ∧ (tSize Try.prog 49 = some 1) ∧ (tZero Try.prog 49 = some (.map none))) ∧
 ((tBytes Try.prog 49 = some 8) ∧ (tMap Try.prog 49 = some (3, 4)) ∧ (tAgg Try.prog 50 = some true) ∧ (tSize Try.prog 50 = some 2) ∧ (tZero Try.prog 50 = some (.agg #[.int .i64 0, .int .i64 0])) ∧ (tBytes Try.prog 50 = some 16) ∧ (tElem Try.prog 50 = some (some 2, 3)) ∧ (tBuild Try.prog 50 = some (.agg #[.int .i64 0, .int .i64 0], fun i => some (i * 1, 1))) ∧ (tAgg Try.prog 62 = some true) ∧ (tSize Try.prog 62 = some 12) ∧ (tZero Try.prog 62 = some (.agg #[.int .i64 0, .int .i64 0, .int .i64 0, .int .i64 0, .int .i64 0, .int .i64 0, .int .i64 0, .int .i64 0, .int .i64 0, .int .i64 0, .int .i64 0, .int .i64 0])) ∧ (tBytes Try.prog 62 = some 96) ∧ (tElem Try.prog 62 = some (some 12, 3)) ∧ (tBuild Try.prog 62 = some (.agg #[.int .i64 0, .int .i64 0, .int .i64 0, .int .i64 0, .int .i64 0, .int .i64 0, .int .i64 0, .int .i64 0, .int .i64 0, .int .i64 0, .int .i64 0, .int .i64 0], fun i => some (i * 1, 1))) ∧ (tAgg Try.prog 66 = some false) ∧ (tSize Try.prog 66 = some 1)) ∧
 ((tZero Try.prog 66 = some (.slice none 0 0)) ∧ (tBytes Try.prog 66 = some 24) ∧ (tElem Try.prog 66 = some (none, 4)) ∧ (tAgg Try.prog 71 = some true) ∧ (tSize Try.prog 71 = some 12) ∧ (tZero Try.prog 71 = some (.agg #[.int .i64 0, .int .i64 0, .int .i64 0, .int .i64 0, .int .i64 0, .int .i64 0, .int .i64 0, .int .i64 0, .int .i64 0, .int .i64 0, .int .i64 0, .int .i64 0])) ∧ (tBytes Try.prog 71 = some 96) ∧ (tElem Try.prog 71 = some (some 12, 3)) ∧ (tBuild Try.prog 71 = some (.agg #[.int .i64 0, .int .i64 0, .int .i64 0, .int .i64 0, .int .i64 0, .int .i64 0, .int .i64 0, .int .i64 0, .int .i64 0, .int .i64 0, .int .i64 0, .int .i64 0], fun i => some (i * 1, 1))) ∧ (tAgg Try.prog 76 = some true) ∧ (tSize Try.prog 76 = some 3) ∧ (tZero Try.prog 76 = some (.agg #[.int .i64 0, .int .i64 0, .int .i64 0])) ∧ (tBytes Try.prog 76 = some 24) ∧ (tField Try.prog 76 0 = some (0, 3)) ∧ (tField Try.prog 76 1 = some (1, 3)) ∧ (tField Try.prog 76 2 = some (2, 3))) ∧
 ((tBuild Try.prog 76 = some (.agg #[.int .i64 0, .int .i64 0, .int .i64 0], fun i => (#[(0, 1), (1, 1), (2, 1)] : Array (Nat × Nat))[i]?)) ∧ (tAgg Try.prog 87 = some true) ∧ (tSize Try.prog 87 = some 2) ∧ (tZero Try.prog 87 = some (.agg #[.int .i64 0, .int .i64 0])) ∧ (tBytes Try.prog 87 = some 16) ∧ (tField Try.prog 87 0 = some (0, 3)) ∧ (tField Try.prog 87 1 = some (1, 3)) ∧ (tBuild Try.prog 87 = some (.agg #[.int .i64 0, .int .i64 0], fun i => (#[(0, 1), (1, 1)] : Array (Nat × Nat))[i]?)) ∧ (tAgg Try.prog 92 = some true) ∧ (tSize Try.prog 92 = some 12) ∧ (tZero Try.prog 92 = some (.agg #[.slice none 0 0, .slice none 0 0, .slice none 0 0, .slice none 0 0, .slice none 0 0, .slice none 0 0, .slice none 0 0, .slice none 0 0, .slice none 0 0, .slice none 0 0, .slice none 0 0, .slice none 0 0])) ∧ (tBytes Try.prog 92 = some 288) ∧ (tElem Try.prog 92 = some (some 12, 27)) ∧ (tBuild Try.prog 92 = some (.agg #[.slice none 0 0, .slice none 0 0, .slice none 0 0, .slice none 0 0, .slice none 0 0, .slice none 0 0, .slice none 0 0, .slice none 0 0, .slice none 0 0, .slice none 0 0, .slice none 0 0, .slice none 0 0], fun i => some (i * 1, 1))) ∧ (tAgg Try.prog 99 = some false) ∧ (tSize Try.prog 99 = some 1)) ∧
 ((tZero Try.prog 99 = some (.pointer none)) ∧ (tBytes Try.prog 99 = some 8) ∧ (tAgg Try.prog 100 = some false) ∧ (tSize Try.prog 100 = some 1) ∧ (tZero Try.prog 100 = some (.map none)) ∧ (tBytes Try.prog 100 = some 8) ∧ (tMap Try.prog 100 = some (3, 3)) ∧ (tAgg Try.prog 111 = some false) ∧ (tSize Try.prog 111 = some 1) ∧ (tZero Try.prog 111 = some (.int .u64 0)) ∧ (tBytes Try.prog 111 = some 8) ∧ (Try.prog.underlying 111 = some (.int .u64)) ∧ (tAgg Try.prog 116 = some false) ∧ (tSize Try.prog 116 = some 1) ∧ (tZero Try.prog 116 = some (.int .i64 0)) ∧ (tBytes Try.prog 116 = some 8)) ∧
 ((Try.prog.underlying 116 = some (.int .i64)) ∧ (tAgg Try.prog 124 = some false) ∧ (tSize Try.prog 124 = some 1) ∧ (tZero Try.prog 124 = some (.int .u32 0)) ∧ (tBytes Try.prog 124 = some 4) ∧ (Try.prog.underlying 124 = some (.int .u32)) ∧ (tAgg Try.prog 126 = some false) ∧ (tSize Try.prog 126 = some 1) ∧ (tZero Try.prog 126 = some (.int .u64 0)) ∧ (tBytes Try.prog 126 = some 8) ∧ (Try.prog.underlying 126 = some (.int .u64)) ∧ (tAgg Try.prog 132 = some false) ∧ (tSize Try.prog 132 = some 1) ∧ (tZero Try.prog 132 = some (.int .u64 0)) ∧ (tBytes Try.prog 132 = some 8) ∧ (Try.prog.underlying 132 = some (.int .u64))) ∧
 ((tAgg Try.prog 136 = some false) ∧ (tSize Try.prog 136 = some 1) ∧ (tZero Try.prog 136 = some (.pointer none)) ∧ (tBytes Try.prog 136 = some 8) ∧ (tAgg Try.prog 140 = some false) ∧ (tSize Try.prog 140 = some 1) ∧ (tZero Try.prog 140 = some (.pointer none)) ∧ (tBytes Try.prog 140 = some 8) ∧ (tAgg Try.prog 154 = some false) ∧ (tSize Try.prog 154 = some 1) ∧ (tZero Try.prog 154 = some (.pointer none)) ∧ (tBytes Try.prog 154 = some 8)) := by
 (repeat' refine And.intro ?_ ?_) <;> kernel_rfl
attribute [go_sem] ty
end Go.Proofs.Ytgklecfiflhjmaa
namespace Go.Proofs
open Go.Shelf
def Ytgklecfiflhjmaa.laySortI_ren : Go.Shelf.Ren := ⟨fun | 189 => 88 | 125 => 91 | 257 => 96 | 128 => 105 | 129 => 106 | 294 => 108 | 295 => 109 | 296 => 110 | 297 => 111 | 298 => 112 | 299 => 113 | 216 => 114 | 300 => 115 | 301 => 116 | 328 => 122 | 329 => 118 | 330 => 119 | 331 => 123 | 332 => 124 | 215 => 93 | 343 => 126 | n => n, fun | 28 => 27 | 3 => 3 | 46 => 111 | 0 => 0 | 51 => 124 | 53 => 126 | 4 => 4 | 183 => 117 | 182 => 116 | 131 => 121 | 5 => 5 | 9 => 9 | 218 => 132 | 222 => 136 | 228 => 140 | 229 => 141 | n => n, fun | n => n⟩
theorem Ytgklecfiflhjmaa.laySortI : Go.Proofs.Lays.n189 Try.prog Ytgklecfiflhjmaa.laySortI_ren := {
 mixed := by kernel_rfl
 f125 := Try.func91.trans (congrArg some (by kernel_rfl))
 f128 := Try.func105.trans (congrArg some (by kernel_rfl))
 f129 := Try.func106.trans (congrArg some (by kernel_rfl))
 f189 := Try.func88.trans (congrArg some (by kernel_rfl))
 f215 := Try.func93.trans (congrArg some (by kernel_rfl))
 f216 := Try.func114.trans (congrArg some (by kernel_rfl))
 f257 := Try.func96.trans (congrArg some (by kernel_rfl))
 f294 := Try.func108.trans (congrArg some (by kernel_rfl))
 f295 := Try.func109.trans (congrArg some (by kernel_rfl))
 f296 := Try.func110.trans (congrArg some (by kernel_rfl))
 f297 := Try.func111.trans (congrArg some (by kernel_rfl))
 f298 := Try.func112.trans (congrArg some (by kernel_rfl))
 f299 := Try.func113.trans (congrArg some (by kernel_rfl))
 f300 := Try.func115.trans (congrArg some (by kernel_rfl))
 f301 := Try.func116.trans (congrArg some (by kernel_rfl))
 f328 := Try.func122.trans (congrArg some (by kernel_rfl))
 f329 := Try.func118.trans (congrArg some (by kernel_rfl))
 f330 := Try.func119.trans (congrArg some (by kernel_rfl))
 f331 := Try.func123.trans (congrArg some (by kernel_rfl))
 f332 := Try.func124.trans (congrArg some (by kernel_rfl))
 f343 := Try.func126.trans (congrArg some (by kernel_rfl))
 t0 := Try.underlying0
 a0 := Try.isAgg0
 z0 := Try.sizeOf0
 v0 := Try.zeroValue0
 t3 := Try.underlying3
 a3 := Try.isAgg3
 z3 := Try.sizeOf3
 v3 := Try.zeroValue3
 t4 := Try.underlying4
 a4 := Try.isAgg4
 z4 := Try.sizeOf4
 v4 := Try.zeroValue4
 t5 := Try.underlying5
 a5 := Try.isAgg5
 z5 := Try.sizeOf5
 v5 := Try.zeroValue5
 t9 := Try.underlying9
 a9 := Try.isAgg9
 z9 := Try.sizeOf9
 v9 := Try.zeroValue9
 t28 := Try.underlying27
 a28 := Try.isAgg27
 z28 := Try.sizeOf27
 v28 := Try.zeroValue27
 t46 := Try.underlying111
 a46 := Try.isAgg111
 z46 := Try.sizeOf111
 v46 := Try.zeroValue111
 t51 := Try.underlying124
 a51 := Try.isAgg124
 z51 := Try.sizeOf124
 v51 := Try.zeroValue124
 t53 := Try.underlying126
 a53 := Try.isAgg126
 z53 := Try.sizeOf126
 v53 := Try.zeroValue126
 t131 := Try.underlying121
 a131 := Try.isAgg121
 z131 := Try.sizeOf121
 v131 := Try.zeroValue121
 t182 := Try.underlying116
 a182 := Try.isAgg116
 z182 := Try.sizeOf116
 v182 := Try.zeroValue116
 t183 := Try.underlying117
 a183 := Try.isAgg117
 z183 := Try.sizeOf117
 v183 := Try.zeroValue117
 t218 := Try.underlying132
 a218 := Try.isAgg132
 z218 := Try.sizeOf132
 v218 := Try.zeroValue132
 t222 := Try.underlying136
 a222 := Try.isAgg136
 z222 := Try.sizeOf136
 v222 := Try.zeroValue136
 t228 := Try.underlying140
 a228 := Try.isAgg140
 z228 := Try.sizeOf140
 v228 := Try.zeroValue140
 t229 := Try.underlying141
 a229 := Try.isAgg141
 z229 := Try.sizeOf141
 v229 := Try.zeroValue141 }
def Ytgklecfiflhjmaa.laySortL_ren : Go.Shelf.Ren := ⟨fun | 6 => 78 | 15 => 91 | 14 => 90 | 28 => 105 | 29 => 106 | 20 => 97 | 21 => 98 | 22 => 99 | 23 => 100 | 24 => 101 | 25 => 102 | 26 => 103 | 27 => 104 | 46 => 117 | 47 => 118 | 48 => 119 | 49 => 120 | 50 => 121 | 57 => 125 | n => n, fun | 22 => 34 | 24 => 27 | 25 => 77 | 3 => 3 | 39 => 111 | 0 => 0 | 53 => 124 | 55 => 126 | 4 => 4 | 46 => 117 | 45 => 116 | 50 => 121 | 5 => 5 | 9 => 9 | 66 => 132 | 70 => 136 | 76 => 140 | 77 => 141 | n => n, fun | n => n⟩
theorem Ytgklecfiflhjmaa.laySortL : Go.Proofs.SlLaysF.n6 Try.prog Ytgklecfiflhjmaa.laySortL_ren := {
 mixed := by kernel_rfl
 f6 := ⟨Try.f78.name, by decide, Try.func78.trans (congrArg some (by kernel_rfl))⟩
 f14 := ⟨Try.f90.name, by decide, Try.func90.trans (congrArg some (by kernel_rfl))⟩
 f15 := Try.func91.trans (congrArg some (by kernel_rfl))
 f20 := ⟨Try.f97.name, by decide, Try.func97.trans (congrArg some (by kernel_rfl))⟩
 f21 := ⟨Try.f98.name, by decide, Try.func98.trans (congrArg some (by kernel_rfl))⟩
 f22 := ⟨Try.f99.name, by decide, Try.func99.trans (congrArg some (by kernel_rfl))⟩
 f23 := ⟨Try.f100.name, by decide, Try.func100.trans (congrArg some (by kernel_rfl))⟩
 f24 := ⟨Try.f101.name, by decide, Try.func101.trans (congrArg some (by kernel_rfl))⟩
 f25 := ⟨Try.f102.name, by decide, Try.func102.trans (congrArg some (by kernel_rfl))⟩
 f26 := ⟨Try.f103.name, by decide, Try.func103.trans (congrArg some (by kernel_rfl))⟩
 f27 := ⟨Try.f104.name, by decide, Try.func104.trans (congrArg some (by kernel_rfl))⟩
 f28 := Try.func105.trans (congrArg some (by kernel_rfl))
 f29 := Try.func106.trans (congrArg some (by kernel_rfl))
 f46 := ⟨Try.f117.name, by decide, Try.func117.trans (congrArg some (by kernel_rfl))⟩
 f47 := Try.func118.trans (congrArg some (by kernel_rfl))
 f48 := Try.func119.trans (congrArg some (by kernel_rfl))
 f49 := ⟨Try.f120.name, by decide, Try.func120.trans (congrArg some (by kernel_rfl))⟩
 f50 := ⟨Try.f121.name, by decide, Try.func121.trans (congrArg some (by kernel_rfl))⟩
 f57 := ⟨Try.f125.name, by decide, Try.func125.trans (congrArg some (by kernel_rfl))⟩
 t0 := Try.underlying0
 a0 := Try.isAgg0
 z0 := Try.sizeOf0
 v0 := Try.zeroValue0
 t3 := Try.underlying3
 a3 := Try.isAgg3
 z3 := Try.sizeOf3
 v3 := Try.zeroValue3
 t4 := Try.underlying4
 a4 := Try.isAgg4
 z4 := Try.sizeOf4
 v4 := Try.zeroValue4
 t5 := Try.underlying5
 a5 := Try.isAgg5
 z5 := Try.sizeOf5
 v5 := Try.zeroValue5
 t9 := Try.underlying9
 a9 := Try.isAgg9
 z9 := Try.sizeOf9
 v9 := Try.zeroValue9
 t22 := Try.underlying34
 a22 := Try.isAgg34
 z22 := Try.sizeOf34
 v22 := Try.zeroValue34
 a24 := Try.isAgg27
 z24 := Try.sizeOf27
 t25 := Try.underlying77
 a25 := Try.isAgg77
 z25 := Try.sizeOf77
 v25 := Try.zeroValue77
 t39 := Try.underlying111
 a39 := Try.isAgg111
 z39 := Try.sizeOf111
 v39 := Try.zeroValue111
 t45 := Try.underlying116
 a45 := Try.isAgg116
 z45 := Try.sizeOf116
 v45 := Try.zeroValue116
 t46 := Try.underlying117
 a46 := Try.isAgg117
 z46 := Try.sizeOf117
 v46 := Try.zeroValue117
 t50 := Try.underlying121
 a50 := Try.isAgg121
 z50 := Try.sizeOf121
 v50 := Try.zeroValue121
 t53 := Try.underlying124
 a53 := Try.isAgg124
 z53 := Try.sizeOf124
 v53 := Try.zeroValue124
 t55 := Try.underlying126
 a55 := Try.isAgg126
 z55 := Try.sizeOf126
 v55 := Try.zeroValue126
 t66 := Try.underlying132
 a66 := Try.isAgg132
 z66 := Try.sizeOf132
 v66 := Try.zeroValue132
 t70 := Try.underlying136
 a70 := Try.isAgg136
 z70 := Try.sizeOf136
 v70 := Try.zeroValue136
 t76 := Try.underlying140
 a76 := Try.isAgg140
 z76 := Try.sizeOf140
 v76 := Try.zeroValue140
 t77 := Try.underlying141
 a77 := Try.isAgg141
 z77 := Try.sizeOf141
 v77 := Try.zeroValue141 }
end Go.Proofs
