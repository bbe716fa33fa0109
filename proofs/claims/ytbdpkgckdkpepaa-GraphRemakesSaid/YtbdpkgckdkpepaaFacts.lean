/- A part of the proof: contracts of functions of the program, or plain lemmas. -/
import Derived.Test.YtbdpkgckdkpepaaLayerC
import Derived.Test.YtbdpkgckdkpepaaProg
import Derived.KernelRfl
set_option linter.all false
namespace Go.Proofs.Ytbdpkgckdkpepaa
open Go.Sp
theorem ty0 : tAgg Try.prog 2 = some false := by kernel_rfl
theorem ty1 : tSize Try.prog 2 = some 1 := by kernel_rfl
theorem ty2 : tZero Try.prog 2 = some (.int .i64 0) := by kernel_rfl
theorem ty3 : tBytes Try.prog 2 = some 8 := by kernel_rfl
theorem ty4 : Try.prog.underlying 2 = some (.int .i64) := by kernel_rfl
theorem ty5 : tAgg Try.prog 3 = some false := by kernel_rfl
theorem ty6 : tSize Try.prog 3 = some 1 := by kernel_rfl
theorem ty7 : tZero Try.prog 3 = some (.int .i64 0) := by kernel_rfl
theorem ty8 : tBytes Try.prog 3 = some 8 := by kernel_rfl
theorem ty9 : Try.prog.underlying 3 = some (.int .i64) := by kernel_rfl
theorem ty10 : tAgg Try.prog 4 = some false := by kernel_rfl
theorem ty11 : tSize Try.prog 4 = some 1 := by kernel_rfl
theorem ty12 : tZero Try.prog 4 = some (.bool false) := by kernel_rfl
theorem ty13 : tBytes Try.prog 4 = some 1 := by kernel_rfl
theorem ty14 : Try.prog.underlying 4 = some .bool := by kernel_rfl
theorem ty15 : tAgg Try.prog 5 = some false := by kernel_rfl
theorem ty16 : tSize Try.prog 5 = some 1 := by kernel_rfl
theorem ty17 : tZero Try.prog 5 = some (.int .u8 0) := by kernel_rfl
theorem ty18 : tBytes Try.prog 5 = some 1 := by kernel_rfl
theorem ty19 : Try.prog.underlying 5 = some (.int .u8) := by kernel_rfl
theorem ty20 : tAgg Try.prog 9 = some false := by kernel_rfl
theorem ty21 : tSize Try.prog 9 = some 1 := by kernel_rfl
theorem ty22 : tZero Try.prog 9 = some (.string ByteArray.empty) := by kernel_rfl
theorem ty23 : tBytes Try.prog 9 = some 16 := by kernel_rfl
theorem ty24 : tAgg Try.prog 21 = some false := by kernel_rfl
theorem ty25 : tSize Try.prog 21 = some 1 := by kernel_rfl
theorem ty26 : tZero Try.prog 21 = some (.int .i32 0) := by kernel_rfl
theorem ty27 : tBytes Try.prog 21 = some 4 := by kernel_rfl
theorem ty28 : Try.prog.underlying 21 = some (.int .i32) := by kernel_rfl
theorem ty29 : tAgg Try.prog 22 = some false := by kernel_rfl
theorem ty30 : tSize Try.prog 22 = some 1 := by kernel_rfl
theorem ty31 : tZero Try.prog 22 = some (.slice none 0 0) := by kernel_rfl
theorem ty32 : tBytes Try.prog 22 = some 24 := by kernel_rfl
theorem ty33 : tElem Try.prog 22 = some (none, 71) := by kernel_rfl
theorem ty34 : tAgg Try.prog 24 = some true := by kernel_rfl
theorem ty35 : tSize Try.prog 24 = some 2 := by kernel_rfl
theorem ty36 : tZero Try.prog 24 = some (.agg #[.int .i64 0, .slice none 0 0]) := by kernel_rfl
theorem ty37 : tBytes Try.prog 24 = some 32 := by kernel_rfl
theorem ty38 : tField Try.prog 24 0 = some (0, 3) := by kernel_rfl
theorem ty39 : tField Try.prog 24 1 = some (1, 22) := by kernel_rfl
theorem ty40 : tBuild Try.prog 24 = some (.agg #[.int .i64 0, .slice none 0 0], fun i => (#[(0, 1), (1, 1)] : Array (Nat × Nat))[i]?) := by kernel_rfl
theorem ty41 : tAgg Try.prog 28 = some false := by kernel_rfl
theorem ty42 : tSize Try.prog 28 = some 1 := by kernel_rfl
theorem ty43 : tZero Try.prog 28 = some (.int .i64 0) := by kernel_rfl
theorem ty44 : tBytes Try.prog 28 = some 8 := by kernel_rfl
theorem ty45 : Try.prog.underlying 28 = some (.int .i64) := by kernel_rfl
theorem ty46 : tAgg Try.prog 31 = some false := by kernel_rfl
theorem ty47 : tSize Try.prog 31 = some 1 := by kernel_rfl
theorem ty48 : tZero Try.prog 31 = some (.slice none 0 0) := by kernel_rfl
theorem ty49 : tBytes Try.prog 31 = some 24 := by kernel_rfl
theorem ty50 : tElem Try.prog 31 = some (none, 37) := by kernel_rfl
theorem ty51 : tAgg Try.prog 37 = some true := by kernel_rfl
theorem ty52 : tSize Try.prog 37 = some 2 := by kernel_rfl
theorem ty53 : tZero Try.prog 37 = some (.agg #[.int .i64 0, .int .i64 0]) := by kernel_rfl
theorem ty54 : tBytes Try.prog 37 = some 16 := by kernel_rfl
theorem ty55 : tElem Try.prog 37 = some (some 2, 3) := by kernel_rfl
theorem ty56 : tBuild Try.prog 37 = some (.agg #[.int .i64 0, .int .i64 0], fun i => some (i * 1, 1)) := by kernel_rfl
theorem ty57 : tAgg Try.prog 44 = some false := by kernel_rfl
theorem ty58 : tSize Try.prog 44 = some 1 := by kernel_rfl
theorem ty59 : tZero Try.prog 44 = some (.slice none 0 0) := by kernel_rfl
theorem ty60 : tBytes Try.prog 44 = some 24 := by kernel_rfl
theorem ty61 : tElem Try.prog 44 = some (none, 3) := by kernel_rfl
theorem ty62 : tAgg Try.prog 54 = some false := by kernel_rfl
theorem ty63 : tSize Try.prog 54 = some 1 := by kernel_rfl
theorem ty64 : tZero Try.prog 54 = some (.int .u16 0) := by kernel_rfl
theorem ty65 : tBytes Try.prog 54 = some 2 := by kernel_rfl
theorem ty66 : Try.prog.underlying 54 = some (.int .u16) := by kernel_rfl
theorem ty67 : tAgg Try.prog 71 = some true := by kernel_rfl
theorem ty68 : tSize Try.prog 71 = some 3 := by kernel_rfl
theorem ty69 : tZero Try.prog 71 = some (.agg #[.int .i64 0, .int .i64 0, .int .i64 0]) := by kernel_rfl
theorem ty70 : tBytes Try.prog 71 = some 24 := by kernel_rfl
theorem ty71 : tField Try.prog 71 0 = some (0, 3) := by kernel_rfl
theorem ty72 : tField Try.prog 71 1 = some (1, 3) := by kernel_rfl
theorem ty73 : tField Try.prog 71 2 = some (2, 3) := by kernel_rfl
theorem ty74 : tBuild Try.prog 71 = some (.agg #[.int .i64 0, .int .i64 0, .int .i64 0], fun i => (#[(0, 1), (1, 1), (2, 1)] : Array (Nat × Nat))[i]?) := by kernel_rfl
theorem ty75 : tAgg Try.prog 76 = some true := by kernel_rfl
theorem ty76 : tSize Try.prog 76 = some 2 := by kernel_rfl
theorem ty77 : tZero Try.prog 76 = some (.agg #[.int .i64 0, .int .i64 0]) := by kernel_rfl
theorem ty78 : tBytes Try.prog 76 = some 16 := by kernel_rfl
theorem ty79 : tField Try.prog 76 0 = some (0, 3) := by kernel_rfl
theorem ty80 : tField Try.prog 76 1 = some (1, 3) := by kernel_rfl
theorem ty81 : tBuild Try.prog 76 = some (.agg #[.int .i64 0, .int .i64 0], fun i => (#[(0, 1), (1, 1)] : Array (Nat × Nat))[i]?) := by kernel_rfl
theorem ty82 : tAgg Try.prog 77 = some true := by kernel_rfl
theorem ty83 : tSize Try.prog 77 = some 12 := by kernel_rfl
theorem ty84 : tZero Try.prog 77 = some (.agg #[.int .i64 0, .int .i64 0, .int .i64 0, .int .i64 0, .int .i64 0, .int .i64 0, .int .i64 0, .int .i64 0, .int .i64 0, .int .i64 0, .int .i64 0, .int .i64 0]) := by kernel_rfl
theorem ty85 : tBytes Try.prog 77 = some 96 := by kernel_rfl
theorem ty86 : tElem Try.prog 77 = some (some 12, 3) := by kernel_rfl
theorem ty87 : tBuild Try.prog 77 = some (.agg #[.int .i64 0, .int .i64 0, .int .i64 0, .int .i64 0, .int .i64 0, .int .i64 0, .int .i64 0, .int .i64 0, .int .i64 0, .int .i64 0, .int .i64 0, .int .i64 0], fun i => some (i * 1, 1)) := by kernel_rfl
theorem ty88 : tAgg Try.prog 78 = some true := by kernel_rfl
theorem ty89 : tSize Try.prog 78 = some 12 := by kernel_rfl
theorem ty90 : tZero Try.prog 78 = some (.agg #[.int .i64 0, .int .i64 0, .int .i64 0, .int .i64 0, .int .i64 0, .int .i64 0, .int .i64 0, .int .i64 0, .int .i64 0, .int .i64 0, .int .i64 0, .int .i64 0]) := by kernel_rfl
theorem ty91 : tBytes Try.prog 78 = some 96 := by kernel_rfl
theorem ty92 : tElem Try.prog 78 = some (some 12, 3) := by kernel_rfl
theorem ty93 : tBuild Try.prog 78 = some (.agg #[.int .i64 0, .int .i64 0, .int .i64 0, .int .i64 0, .int .i64 0, .int .i64 0, .int .i64 0, .int .i64 0, .int .i64 0, .int .i64 0, .int .i64 0, .int .i64 0], fun i => some (i * 1, 1)) := by kernel_rfl
theorem ty94 : tAgg Try.prog 82 = some false := by kernel_rfl
theorem ty95 : tSize Try.prog 82 = some 1 := by kernel_rfl
theorem ty96 : tZero Try.prog 82 = some (.map none) := by kernel_rfl
theorem ty97 : tBytes Try.prog 82 = some 8 := by kernel_rfl
theorem ty98 : tMap Try.prog 82 = some (76, 3) := by kernel_rfl
theorem ty99 : tAgg Try.prog 83 = some false := by kernel_rfl
theorem ty100 : tSize Try.prog 83 = some 1 := by kernel_rfl
theorem ty101 : tZero Try.prog 83 = some (.map none) := by kernel_rfl
theorem ty102 : tBytes Try.prog 83 = some 8 := by kernel_rfl
theorem ty103 : tMap Try.prog 83 = some (76, 3) := by kernel_rfl
theorem ty104 : tAgg Try.prog 86 = some false := by kernel_rfl
theorem ty105 : tSize Try.prog 86 = some 1 := by kernel_rfl
theorem ty106 : tZero Try.prog 86 = some (.slice none 0 0) := by kernel_rfl
theorem ty107 : tBytes Try.prog 86 = some 24 := by kernel_rfl
theorem ty108 : tElem Try.prog 86 = some (none, 44) := by kernel_rfl
theorem ty109 : tAgg Try.prog 99 = some false := by kernel_rfl
theorem ty110 : tSize Try.prog 99 = some 1 := by kernel_rfl
theorem ty111 : tZero Try.prog 99 = some (.pointer none) := by kernel_rfl
theorem ty112 : tBytes Try.prog 99 = some 8 := by kernel_rfl
theorem ty113 : tAgg Try.prog 102 = some false := by kernel_rfl
theorem ty114 : tSize Try.prog 102 = some 1 := by kernel_rfl
theorem ty115 : tZero Try.prog 102 = some (.slice none 0 0) := by kernel_rfl
theorem ty116 : tBytes Try.prog 102 = some 24 := by kernel_rfl
theorem ty117 : tElem Try.prog 102 = some (none, 4) := by kernel_rfl
theorem ty118 : tAgg Try.prog 108 = some false := by kernel_rfl
theorem ty119 : tSize Try.prog 108 = some 1 := by kernel_rfl
theorem ty120 : tZero Try.prog 108 = some (.int .u64 0) := by kernel_rfl
theorem ty121 : tBytes Try.prog 108 = some 8 := by kernel_rfl
theorem ty122 : Try.prog.underlying 108 = some (.int .u64) := by kernel_rfl
theorem ty123 : tAgg Try.prog 112 = some false := by kernel_rfl
theorem ty124 : tSize Try.prog 112 = some 1 := by kernel_rfl
theorem ty125 : tZero Try.prog 112 = some (.int .i64 0) := by kernel_rfl
theorem ty126 : tBytes Try.prog 112 = some 8 := by kernel_rfl
theorem ty127 : Try.prog.underlying 112 = some (.int .i64) := by kernel_rfl
theorem ty128 : tAgg Try.prog 119 = some false := by kernel_rfl
theorem ty129 : tSize Try.prog 119 = some 1 := by kernel_rfl
theorem ty130 : tZero Try.prog 119 = some (.int .u32 0) := by kernel_rfl
theorem ty131 : tBytes Try.prog 119 = some 4 := by kernel_rfl
theorem ty132 : Try.prog.underlying 119 = some (.int .u32) := by kernel_rfl
theorem ty133 : tAgg Try.prog 121 = some false := by kernel_rfl
theorem ty134 : tSize Try.prog 121 = some 1 := by kernel_rfl
theorem ty135 : tZero Try.prog 121 = some (.int .u64 0) := by kernel_rfl
theorem ty136 : tBytes Try.prog 121 = some 8 := by kernel_rfl
theorem ty137 : Try.prog.underlying 121 = some (.int .u64) := by kernel_rfl
theorem ty138 : tAgg Try.prog 127 = some false := by kernel_rfl
theorem ty139 : tSize Try.prog 127 = some 1 := by kernel_rfl
theorem ty140 : tZero Try.prog 127 = some (.int .u64 0) := by kernel_rfl
theorem ty141 : tBytes Try.prog 127 = some 8 := by kernel_rfl
theorem ty142 : Try.prog.underlying 127 = some (.int .u64) := by kernel_rfl
theorem ty143 : tAgg Try.prog 131 = some false := by kernel_rfl
theorem ty144 : tSize Try.prog 131 = some 1 := by kernel_rfl
theorem ty145 : tZero Try.prog 131 = some (.pointer none) := by kernel_rfl
theorem ty146 : tBytes Try.prog 131 = some 8 := by kernel_rfl
theorem ty147 : tAgg Try.prog 135 = some false := by kernel_rfl
theorem ty148 : tSize Try.prog 135 = some 1 := by kernel_rfl
theorem ty149 : tZero Try.prog 135 = some (.pointer none) := by kernel_rfl
theorem ty150 : tBytes Try.prog 135 = some 8 := by kernel_rfl
theorem ty151 : tAgg Try.prog 149 = some false := by kernel_rfl
theorem ty152 : tSize Try.prog 149 = some 1 := by kernel_rfl
theorem ty153 : tZero Try.prog 149 = some (.pointer none) := by kernel_rfl
theorem ty154 : tBytes Try.prog 149 = some 8 := by kernel_rfl
theorem tyg0 :
  (tAgg Try.prog 2 = some false) ∧
  (tSize Try.prog 2 = some 1) ∧
  (tZero Try.prog 2 = some (.int .i64 0)) ∧
  (tBytes Try.prog 2 = some 8) ∧
  (Try.prog.underlying 2 = some (.int .i64)) ∧
  (tAgg Try.prog 3 = some false) ∧
  (tSize Try.prog 3 = some 1) ∧
  (tZero Try.prog 3 = some (.int .i64 0)) ∧
  (tBytes Try.prog 3 = some 8) ∧
  (Try.prog.underlying 3 = some (.int .i64)) ∧
  (tAgg Try.prog 4 = some false) ∧
  (tSize Try.prog 4 = some 1) ∧
  (tZero Try.prog 4 = some (.bool false)) ∧
  (tBytes Try.prog 4 = some 1) ∧
  (Try.prog.underlying 4 = some .bool) ∧
  (tAgg Try.prog 5 = some false) :=
  ⟨ty0, ty1, ty2, ty3, ty4, ty5, ty6, ty7, ty8, ty9, ty10, ty11, ty12, ty13, ty14, ty15⟩
theorem tyg1 :
  (tSize Try.prog 5 = some 1) ∧
  (tZero Try.prog 5 = some (.int .u8 0)) ∧
  (tBytes Try.prog 5 = some 1) ∧
  (Try.prog.underlying 5 = some (.int .u8)) ∧
  (tAgg Try.prog 9 = some false) ∧
  (tSize Try.prog 9 = some 1) ∧
  (tZero Try.prog 9 = some (.string ByteArray.empty)) ∧
  (tBytes Try.prog 9 = some 16) ∧
  (tAgg Try.prog 21 = some false) ∧
  (tSize Try.prog 21 = some 1) ∧
  (tZero Try.prog 21 = some (.int .i32 0)) ∧
  (tBytes Try.prog 21 = some 4) ∧
  (Try.prog.underlying 21 = some (.int .i32)) ∧
  (tAgg Try.prog 22 = some false) ∧
  (tSize Try.prog 22 = some 1) ∧
  (tZero Try.prog 22 = some (.slice none 0 0)) :=
  ⟨ty16, ty17, ty18, ty19, ty20, ty21, ty22, ty23, ty24, ty25, ty26, ty27, ty28, ty29, ty30, ty31⟩
theorem tyg2 :
  (tBytes Try.prog 22 = some 24) ∧
  (tElem Try.prog 22 = some (none, 71)) ∧
  (tAgg Try.prog 24 = some true) ∧
  (tSize Try.prog 24 = some 2) ∧
  (tZero Try.prog 24 = some (.agg #[.int .i64 0, .slice none 0 0])) ∧
  (tBytes Try.prog 24 = some 32) ∧
  (tField Try.prog 24 0 = some (0, 3)) ∧
  (tField Try.prog 24 1 = some (1, 22)) ∧
  (tBuild Try.prog 24 = some (.agg #[.int .i64 0, .slice none 0 0], fun i => (#[(0, 1), (1, 1)] : Array (Nat × Nat))[i]?)) ∧
  (tAgg Try.prog 28 = some false) ∧
  (tSize Try.prog 28 = some 1) ∧
  (tZero Try.prog 28 = some (.int .i64 0)) ∧
  (tBytes Try.prog 28 = some 8) ∧
  (Try.prog.underlying 28 = some (.int .i64)) ∧
  (tAgg Try.prog 31 = some false) ∧
  (tSize Try.prog 31 = some 1) :=
  ⟨ty32, ty33, ty34, ty35, ty36, ty37, ty38, ty39, ty40, ty41, ty42, ty43, ty44, ty45, ty46, ty47⟩
theorem tyg3 :
  (tZero Try.prog 31 = some (.slice none 0 0)) ∧
  (tBytes Try.prog 31 = some 24) ∧
  (tElem Try.prog 31 = some (none, 37)) ∧
  (tAgg Try.prog 37 = some true) ∧
  (tSize Try.prog 37 = some 2) ∧
  (tZero Try.prog 37 = some (.agg #[.int .i64 0, .int .i64 0])) ∧
  (tBytes Try.prog 37 = some 16) ∧
  (tElem Try.prog 37 = some (some 2, 3)) ∧
  (tBuild Try.prog 37 = some (.agg #[.int .i64 0, .int .i64 0], fun i => some (i * 1, 1))) ∧
  (tAgg Try.prog 44 = some false) ∧
  (tSize Try.prog 44 = some 1) ∧
  (tZero Try.prog 44 = some (.slice none 0 0)) ∧
  (tBytes Try.prog 44 = some 24) ∧
  (tElem Try.prog 44 = some (none, 3)) ∧
  (tAgg Try.prog 54 = some false) ∧
  (tSize Try.prog 54 = some 1) :=
  ⟨ty48, ty49, ty50, ty51, ty52, ty53, ty54, ty55, ty56, ty57, ty58, ty59, ty60, ty61, ty62, ty63⟩
theorem tyg4 :
  (tZero Try.prog 54 = some (.int .u16 0)) ∧
  (tBytes Try.prog 54 = some 2) ∧
  (Try.prog.underlying 54 = some (.int .u16)) ∧
  (tAgg Try.prog 71 = some true) ∧
  (tSize Try.prog 71 = some 3) ∧
  (tZero Try.prog 71 = some (.agg #[.int .i64 0, .int .i64 0, .int .i64 0])) ∧
  (tBytes Try.prog 71 = some 24) ∧
  (tField Try.prog 71 0 = some (0, 3)) ∧
  (tField Try.prog 71 1 = some (1, 3)) ∧
  (tField Try.prog 71 2 = some (2, 3)) ∧
  (tBuild Try.prog 71 = some (.agg #[.int .i64 0, .int .i64 0, .int .i64 0], fun i => (#[(0, 1), (1, 1), (2, 1)] : Array (Nat × Nat))[i]?)) ∧
  (tAgg Try.prog 76 = some true) ∧
  (tSize Try.prog 76 = some 2) ∧
  (tZero Try.prog 76 = some (.agg #[.int .i64 0, .int .i64 0])) ∧
  (tBytes Try.prog 76 = some 16) ∧
  (tField Try.prog 76 0 = some (0, 3)) :=
  ⟨ty64, ty65, ty66, ty67, ty68, ty69, ty70, ty71, ty72, ty73, ty74, ty75, ty76, ty77, ty78, ty79⟩
theorem tyg5 :
  (tField Try.prog 76 1 = some (1, 3)) ∧
  (tBuild Try.prog 76 = some (.agg #[.int .i64 0, .int .i64 0], fun i => (#[(0, 1), (1, 1)] : Array (Nat × Nat))[i]?)) ∧
  (tAgg Try.prog 77 = some true) ∧
  (tSize Try.prog 77 = some 12) ∧
  (tZero Try.prog 77 = some (.agg #[.int .i64 0, .int .i64 0, .int .i64 0, .int .i64 0, .int .i64 0, .int .i64 0, .int .i64 0, .int .i64 0, .int .i64 0, .int .i64 0, .int .i64 0, .int .i64 0])) ∧
  (tBytes Try.prog 77 = some 96) ∧
  (tElem Try.prog 77 = some (some 12, 3)) ∧
  (tBuild Try.prog 77 = some (.agg #[.int .i64 0, .int .i64 0, .int .i64 0, .int .i64 0, .int .i64 0, .int .i64 0, .int .i64 0, .int .i64 0, .int .i64 0, .int .i64 0, .int .i64 0, .int .i64 0], fun i => some (i * 1, 1))) ∧
  (tAgg Try.prog 78 = some true) ∧
  (tSize Try.prog 78 = some 12) ∧
  (tZero Try.prog 78 = some (.agg #[.int .i64 0, .int .i64 0, .int .i64 0, .int .i64 0, .int .i64 0, .int .i64 0, .int .i64 0, .int .i64 0, .int .i64 0, .int .i64 0, .int .i64 0, .int .i64 0])) ∧
  (tBytes Try.prog 78 = some 96) ∧
  (tElem Try.prog 78 = some (some 12, 3)) ∧
  (tBuild Try.prog 78 = some (.agg #[.int .i64 0, .int .i64 0, .int .i64 0, .int .i64 0, .int .i64 0, .int .i64 0, .int .i64 0, .int .i64 0, .int .i64 0, .int .i64 0, .int .i64 0, .int .i64 0], fun i => some (i * 1, 1))) ∧
  (tAgg Try.prog 82 = some false) ∧
  (tSize Try.prog 82 = some 1) :=
  ⟨ty80, ty81, ty82, ty83, ty84, ty85, ty86, ty87, ty88, ty89, ty90, ty91, ty92, ty93, ty94, ty95⟩
theorem tyg6 :
  (tZero Try.prog 82 = some (.map none)) ∧
  (tBytes Try.prog 82 = some 8) ∧
  (tMap Try.prog 82 = some (76, 3)) ∧
  (tAgg Try.prog 83 = some false) ∧
  (tSize Try.prog 83 = some 1) ∧
  (tZero Try.prog 83 = some (.map none)) ∧
  (tBytes Try.prog 83 = some 8) ∧
  (tMap Try.prog 83 = some (76, 3)) ∧
  (tAgg Try.prog 86 = some false) ∧
  (tSize Try.prog 86 = some 1) ∧
  (tZero Try.prog 86 = some (.slice none 0 0)) ∧
  (tBytes Try.prog 86 = some 24) ∧
  (tElem Try.prog 86 = some (none, 44)) ∧
  (tAgg Try.prog 99 = some false) ∧
  (tSize Try.prog 99 = some 1) ∧
  (tZero Try.prog 99 = some (.pointer none)) :=
  ⟨ty96, ty97, ty98, ty99, ty100, ty101, ty102, ty103, ty104, ty105, ty106, ty107, ty108, ty109, ty110, ty111⟩
theorem tyg7 :
  (tBytes Try.prog 99 = some 8) ∧
  (tAgg Try.prog 102 = some false) ∧
  (tSize Try.prog 102 = some 1) ∧
  (tZero Try.prog 102 = some (.slice none 0 0)) ∧
  (tBytes Try.prog 102 = some 24) ∧
  (tElem Try.prog 102 = some (none, 4)) ∧
  (tAgg Try.prog 108 = some false) ∧
  (tSize Try.prog 108 = some 1) ∧
  (tZero Try.prog 108 = some (.int .u64 0)) ∧
  (tBytes Try.prog 108 = some 8) ∧
  (Try.prog.underlying 108 = some (.int .u64)) ∧
  (tAgg Try.prog 112 = some false) ∧
  (tSize Try.prog 112 = some 1) ∧
  (tZero Try.prog 112 = some (.int .i64 0)) ∧
  (tBytes Try.prog 112 = some 8) ∧
  (Try.prog.underlying 112 = some (.int .i64)) :=
  ⟨ty112, ty113, ty114, ty115, ty116, ty117, ty118, ty119, ty120, ty121, ty122, ty123, ty124, ty125, ty126, ty127⟩
theorem tyg8 :
  (tAgg Try.prog 119 = some false) ∧
  (tSize Try.prog 119 = some 1) ∧
  (tZero Try.prog 119 = some (.int .u32 0)) ∧
  (tBytes Try.prog 119 = some 4) ∧
  (Try.prog.underlying 119 = some (.int .u32)) ∧
  (tAgg Try.prog 121 = some false) ∧
  (tSize Try.prog 121 = some 1) ∧
  (tZero Try.prog 121 = some (.int .u64 0)) ∧
  (tBytes Try.prog 121 = some 8) ∧
  (Try.prog.underlying 121 = some (.int .u64)) ∧
  (tAgg Try.prog 127 = some false) ∧
  (tSize Try.prog 127 = some 1) ∧
  (tZero Try.prog 127 = some (.int .u64 0)) ∧
  (tBytes Try.prog 127 = some 8) ∧
  (Try.prog.underlying 127 = some (.int .u64)) ∧
  (tAgg Try.prog 131 = some false) :=
  ⟨ty128, ty129, ty130, ty131, ty132, ty133, ty134, ty135, ty136, ty137, ty138, ty139, ty140, ty141, ty142, ty143⟩
theorem tyg9 :
  (tSize Try.prog 131 = some 1) ∧
  (tZero Try.prog 131 = some (.pointer none)) ∧
  (tBytes Try.prog 131 = some 8) ∧
  (tAgg Try.prog 135 = some false) ∧
  (tSize Try.prog 135 = some 1) ∧
  (tZero Try.prog 135 = some (.pointer none)) ∧
  (tBytes Try.prog 135 = some 8) ∧
  (tAgg Try.prog 149 = some false) ∧
  (tSize Try.prog 149 = some 1) ∧
  (tZero Try.prog 149 = some (.pointer none)) ∧
  (tBytes Try.prog 149 = some 8) :=
  ⟨ty144, ty145, ty146, ty147, ty148, ty149, ty150, ty151, ty152, ty153, ty154⟩
theorem ty :
  ((tAgg Try.prog 2 = some false) ∧ (tSize Try.prog 2 = some 1) ∧ (tZero Try.prog 2 = some (.int .i64 0)) ∧ (tBytes Try.prog 2 = some 8) ∧ (Try.prog.underlying 2 = some (.int .i64)) ∧ (tAgg Try.prog 3 = some false) ∧ (tSize Try.prog 3 = some 1) ∧ (tZero Try.prog 3 = some (.int .i64 0)) ∧ (tBytes Try.prog 3 = some 8) ∧ (Try.prog.underlying 3 = some (.int .i64)) ∧ (tAgg Try.prog 4 = some false) ∧ (tSize Try.prog 4 = some 1) ∧ (tZero Try.prog 4 = some (.bool false)) ∧ (tBytes Try.prog 4 = some 1) ∧ (Try.prog.underlying 4 = some .bool) ∧ (tAgg Try.prog 5 = some false)) ∧
  ((tSize Try.prog 5 = some 1) ∧ (tZero Try.prog 5 = some (.int .u8 0)) ∧ (tBytes Try.prog 5 = some 1) ∧ (Try.prog.underlying 5 = some (.int .u8)) ∧ (tAgg Try.prog 9 = some false) ∧ (tSize Try.prog 9 = some 1) ∧ (tZero Try.prog 9 = some (.string ByteArray.empty)) ∧ (tBytes Try.prog 9 = some 16) ∧ (tAgg Try.prog 21 = some false) ∧ (tSize Try.prog 21 = some 1) ∧ (tZero Try.prog 21 = some (.int .i32 0)) ∧ (tBytes Try.prog 21 = some 4) ∧ (Try.prog.underlying 21 = some (.int .i32)) ∧ (tAgg Try.prog 22 = some false) ∧ (tSize Try.prog 22 = some 1) ∧ (tZero Try.prog 22 = some (.slice none 0 0))) ∧
  ((tBytes Try.prog 22 = some 24) ∧ (tElem Try.prog 22 = some (none, 71)) ∧ (tAgg Try.prog 24 = some true) ∧ (tSize Try.prog 24 = some 2) ∧ (tZero Try.prog 24 = some (.agg #[.int .i64 0, .slice none 0 0])) ∧ (tBytes Try.prog 24 = some 32) ∧ (tField Try.prog 24 0 = some (0, 3)) ∧ (tField Try.prog 24 1 = some (1, 22)) ∧ (tBuild Try.prog 24 = some (.agg #[.int .i64 0, .slice none 0 0], fun i => (#[(0, 1), (1, 1)] : Array (Nat × Nat))[i]?)) ∧ (tAgg Try.prog 28 = some false) ∧ (tSize Try.prog 28 = some 1) ∧ (tZero Try.prog 28 = some (.int .i64 0)) ∧ (tBytes Try.prog 28 = some 8) ∧ (Try.prog.underlying 28 = some (.int .i64)) ∧ (tAgg Try.prog 31 = some false) ∧ (tSize Try.prog 31 = some 1)) ∧
  ((tZero Try.prog 31 = some (.slice none 0 0)) ∧ (tBytes Try.prog 31 = some 24) ∧ (tElem Try.prog 31 = some (none, 37)) ∧ (tAgg Try.prog 37 = some true) ∧ (tSize Try.prog 37 = some 2) ∧ (tZero Try.prog 37 = some (.agg #[.int .i64 0, .int .i64 0])) ∧ (tBytes Try.prog 37 = some 16) ∧ (tElem Try.prog 37 = some (some 2, 3)) ∧ (tBuild Try.prog 37 = some (.agg #[.int .i64 0, .int .i64 0], fun i => some (i * 1, 1))) ∧ (tAgg Try.prog 44 = some false) ∧ (tSize Try.prog 44 = some 1) ∧ (tZero Try.prog 44 = some (.slice none 0 0)) ∧ (tBytes Try.prog 44 = some 24) ∧ (tElem Try.prog 44 = some (none, 3)) ∧ (tAgg Try.prog 54 = some false) ∧ (tSize Try.prog 54 = some 1)) ∧
  ((tZero Try.prog 54 = some (.int .u16 0)) ∧ (tBytes Try.prog 54 = some 2) ∧ (Try.prog.underlying 54 = some (.int .u16)) ∧ (tAgg Try.prog 71 = some true) ∧ (tSize Try.prog 71 = some 3) ∧ (tZero Try.prog 71 = some (.agg #[.int .i64 0, .int .i64 0, .int .i64 0])) ∧ (tBytes Try.prog 71 = some 24) ∧ (tField Try.prog 71 0 = some (0, 3)) ∧ (tField Try.prog 71 1 = some (1, 3)) ∧ (tField Try.prog 71 2 = some (2, 3)) ∧ (tBuild Try.prog 71 = some (.agg #[.int .i64 0, .int .i64 0, .int .i64 0], fun i => (#[(0, 1), (1, 1), (2, 1)] : Array (Nat × Nat))[i]?)) ∧ (tAgg Try.prog 76 = some true) ∧ (tSize Try.prog 76 = some 2) ∧ (tZero Try.prog 76 = some (.agg #[.int .i64 0, .int .i64 0])) ∧ (tBytes Try.prog 76 = some 16) ∧ (tField Try.prog 76 0 = some (0, 3))) ∧
  ((tField Try.prog 76 1 = some (1, 3)) ∧ (tBuild Try.prog 76 = some (.agg #[.int .i64 0, .int .i64 0], fun i => (#[(0, 1), (1, 1)] : Array (Nat × Nat))[i]?)) ∧ (tAgg Try.prog 77 = some true) ∧ (tSize Try.prog 77 = some 12) ∧ (tZero Try.prog 77 = some (.agg #[.int .i64 0, .int .i64 0, .int .i64 0, .int .i64 0, .int .i64 0, .int .i64 0, .int .i64 0, .int .i64 0, .int .i64 0, .int .i64 0, .int .i64 0, .int .i64 0])) ∧ (tBytes Try.prog 77 = some 96) ∧ (tElem Try.prog 77 = some (some 12, 3)) ∧ (tBuild Try.prog 77 = some (.agg #[.int .i64 0, .int .i64 0, .int .i64 0, .int .i64 0, .int .i64 0, .int .i64 0, .int .i64 0, .int .i64 0, .int .i64 0, .int .i64 0, .int .i64 0, .int .i64 0], fun i => some (i * 1, 1))) ∧ (tAgg Try.prog 78 = some true) ∧ (tSize Try.prog 78 = some 12) ∧ (tZero Try.prog 78 = some (.agg #[.int .i64 0, .int .i64 0, .int .i64 0, .int .i64 0, .int .i64 0, .int .i64 0, .int .i64 0, .int .i64 0, .int .i64 0, .int .i64 0, .int .i64 0, .int .i64 0])) ∧ (tBytes Try.prog 78 = some 96) ∧ (tElem Try.prog 78 = some (some 12, 3)) ∧ (tBuild Try.prog 78 = some (.agg #[.int .i64 0, .int .i64 0, .int .i64 0, .int .i64 0, .int .i64 0, .int .i64 0, .int .i64 0, .int .i64 0, .int .i64 0, .int .i64 0, .int .i64 0, .int .i64 0], fun i => some (i * 1, 1))) ∧ (tAgg Try.prog 82 = some false) ∧ (tSize Try.prog 82 = some 1)) ∧
  ((tZero Try.prog 82 = some (.map none)) ∧ (tBytes Try.prog 82 = some 8) ∧ (tMap Try.prog 82 = some (76, 3)) ∧ (tAgg Try.prog 83 = some false) ∧ (tSize Try.prog 83 = some 1) ∧ (tZero Try.prog 83 = some (.map none)) ∧ (tBytes Try.prog 83 = some 8) ∧ (tMap Try.prog 83 = some (76, 3)) ∧ (tAgg Try.prog 86 = some false) ∧ (tSize Try.prog 86 = some 1) ∧ (tZero Try.prog 86 = some (.slice none 0 0)) ∧ (tBytes Try.prog 86 = some 24) ∧ (tElem Try.prog 86 = some (none, 44)) ∧ (tAgg Try.prog 99 = some false) ∧ (tSize Try.prog 99 = some 1) ∧ (tZero Try.prog 99 = some (.pointer none))) ∧
  ((tBytes Try.prog 99 = some 8) ∧ (tAgg Try.prog 102 = some false) ∧ (tSize Try.prog 102 = some 1) ∧ (tZero Try.prog 102 = some (.slice none 0 0)) ∧ (tBytes Try.prog 102 = some 24) ∧ (tElem Try.prog 102 = some (none, 4)) ∧ (tAgg Try.prog 108 = some false) ∧ (tSize Try.prog 108 = some 1) ∧ (tZero Try.prog 108 = some (.int .u64 0)) ∧ (tBytes Try.prog 108 = some 8) ∧ (Try.prog.underlying 108 = some (.int .u64)) ∧ (tAgg Try.prog 112 = some false) ∧ (tSize Try.prog 112 = some 1) ∧ (tZero Try.prog 112 = some (.int .i64 0)) ∧ (tBytes Try.prog 112 = some 8) ∧ (Try.prog.underlying 112 = some (.int .i64))) ∧
  ((tAgg Try.prog 119 = some false) ∧ (tSize Try.prog 119 = some 1) ∧ (tZero Try.prog 119 = some (.int .u32 0)) ∧ (tBytes Try.prog 119 = some 4) ∧ (Try.prog.underlying 119 = some (.int .u32)) ∧ (tAgg Try.prog 121 = some false) ∧ (tSize Try.prog 121 = some 1) ∧ (tZero Try.prog 121 = some (.int .u64 0)) ∧ (tBytes Try.prog 121 = some 8) ∧ (Try.prog.underlying 121 = some (.int .u64)) ∧ (tAgg Try.prog 127 = some false) ∧ (tSize Try.prog 127 = some 1) ∧ (tZero Try.prog 127 = some (.int .u64 0)) ∧ (tBytes Try.prog 127 = some 8) ∧ (Try.prog.underlying 127 = some (.int .u64)) ∧ (tAgg Try.prog 131 = some false)) ∧
  ((tSize Try.prog 131 = some 1) ∧ (tZero Try.prog 131 = some (.pointer none)) ∧ (tBytes Try.prog 131 = some 8) ∧ (tAgg Try.prog 135 = some false) ∧ (tSize Try.prog 135 = some 1) ∧ (tZero Try.prog 135 = some (.pointer none)) ∧ (tBytes Try.prog 135 = some 8) ∧ (tAgg Try.prog 149 = some false) ∧ (tSize Try.prog 149 = some 1) ∧ (tZero Try.prog 149 = some (.pointer none)) ∧ (tBytes Try.prog 149 = some 8)) :=
  ⟨tyg0, tyg1, tyg2, tyg3, tyg4, tyg5, tyg6, tyg7, tyg8, tyg9⟩
attribute [go_sem] ty
end Go.Proofs.Ytbdpkgckdkpepaa
