/- A part of the proof: contracts of functions of the program, and plain lemmas. -/
import Derived.Test.YtfkegnhpihoncaaGreatLayerC
import Derived.Test.YtfkegnhpihoncaaGreatProg
import Derived.KernelRfl
set_option linter.all false
namespace Go.Proofs.YtfkegnhpihoncaaGreat
open Go.Sp
theorem ty0 : tAgg Tryz.prog 2 = some false := by kernel_rfl
theorem ty1 : tSize Tryz.prog 2 = some 1 := by kernel_rfl
theorem ty2 : tZero Tryz.prog 2 = some (.int .i64 0) := by kernel_rfl
theorem ty3 : tBytes Tryz.prog 2 = some 8 := by kernel_rfl
theorem ty4 : Tryz.prog.underlying 2 = some (.int .i64) := by kernel_rfl
theorem ty5 : tAgg Tryz.prog 3 = some false := by kernel_rfl
theorem ty6 : tSize Tryz.prog 3 = some 1 := by kernel_rfl
theorem ty7 : tZero Tryz.prog 3 = some (.int .i64 0) := by kernel_rfl
theorem ty8 : tBytes Tryz.prog 3 = some 8 := by kernel_rfl
theorem ty9 : Tryz.prog.underlying 3 = some (.int .i64) := by kernel_rfl
theorem ty10 : tAgg Tryz.prog 4 = some false := by kernel_rfl
theorem ty11 : tSize Tryz.prog 4 = some 1 := by kernel_rfl
theorem ty12 : tZero Tryz.prog 4 = some (.bool false) := by kernel_rfl
theorem ty13 : tBytes Tryz.prog 4 = some 1 := by kernel_rfl
theorem ty14 : Tryz.prog.underlying 4 = some .bool := by kernel_rfl
theorem ty15 : tAgg Tryz.prog 5 = some false := by kernel_rfl
theorem ty16 : tSize Tryz.prog 5 = some 1 := by kernel_rfl
theorem ty17 : tZero Tryz.prog 5 = some (.int .u8 0) := by kernel_rfl
theorem ty18 : tBytes Tryz.prog 5 = some 1 := by kernel_rfl
theorem ty19 : Tryz.prog.underlying 5 = some (.int .u8) := by kernel_rfl
theorem ty20 : tAgg Tryz.prog 9 = some false := by kernel_rfl
theorem ty21 : tSize Tryz.prog 9 = some 1 := by kernel_rfl
theorem ty22 : tZero Tryz.prog 9 = some (.string ByteArray.empty) := by kernel_rfl
theorem ty23 : tBytes Tryz.prog 9 = some 16 := by kernel_rfl
theorem ty24 : tAgg Tryz.prog 21 = some false := by kernel_rfl
theorem ty25 : tSize Tryz.prog 21 = some 1 := by kernel_rfl
theorem ty26 : tZero Tryz.prog 21 = some (.int .i32 0) := by kernel_rfl
theorem ty27 : tBytes Tryz.prog 21 = some 4 := by kernel_rfl
theorem ty28 : Tryz.prog.underlying 21 = some (.int .i32) := by kernel_rfl
theorem ty29 : tAgg Tryz.prog 22 = some false := by kernel_rfl
theorem ty30 : tSize Tryz.prog 22 = some 1 := by kernel_rfl
theorem ty31 : tZero Tryz.prog 22 = some (.slice none 0 0) := by kernel_rfl
theorem ty32 : tBytes Tryz.prog 22 = some 24 := by kernel_rfl
theorem ty33 : tElem Tryz.prog 22 = some (none, 76) := by kernel_rfl
theorem ty34 : tAgg Tryz.prog 24 = some true := by kernel_rfl
theorem ty35 : tSize Tryz.prog 24 = some 2 := by kernel_rfl
theorem ty36 : tZero Tryz.prog 24 = some (.agg #[.int .i64 0, .slice none 0 0]) := by kernel_rfl
theorem ty37 : tBytes Tryz.prog 24 = some 32 := by kernel_rfl
theorem ty38 : tField Tryz.prog 24 0 = some (0, 3) := by kernel_rfl
theorem ty39 : tField Tryz.prog 24 1 = some (1, 22) := by kernel_rfl
theorem ty40 : tBuild Tryz.prog 24 = some (.agg #[.int .i64 0, .slice none 0 0], fun i => (#[(0, 1), (1, 1)] : Array (Nat × Nat))[i]?) := by kernel_rfl
theorem ty41 : tAgg Tryz.prog 25 = some false := by kernel_rfl
theorem ty42 : tSize Tryz.prog 25 = some 1 := by kernel_rfl
theorem ty43 : tZero Tryz.prog 25 = some (.slice none 0 0) := by kernel_rfl
theorem ty44 : tBytes Tryz.prog 25 = some 24 := by kernel_rfl
theorem ty45 : tElem Tryz.prog 25 = some (none, 40) := by kernel_rfl
theorem ty46 : tAgg Tryz.prog 27 = some true := by kernel_rfl
theorem ty47 : tSize Tryz.prog 27 = some 3 := by kernel_rfl
theorem ty48 : tZero Tryz.prog 27 = some (.agg #[.int .i64 0, .slice none 0 0, .slice none 0 0]) := by kernel_rfl
theorem ty49 : tBytes Tryz.prog 27 = some 56 := by kernel_rfl
theorem ty50 : tField Tryz.prog 27 0 = some (0, 24) := by kernel_rfl
theorem ty51 : tField Tryz.prog 27 1 = some (2, 25) := by kernel_rfl
theorem ty52 : tBuild Tryz.prog 27 = some (.agg #[.int .i64 0, .slice none 0 0, .slice none 0 0], fun i => (#[(0, 2), (2, 1)] : Array (Nat × Nat))[i]?) := by kernel_rfl
theorem ty53 : tAgg Tryz.prog 30 = some false := by kernel_rfl
theorem ty54 : tSize Tryz.prog 30 = some 1 := by kernel_rfl
theorem ty55 : tZero Tryz.prog 30 = some (.int .i64 0) := by kernel_rfl
theorem ty56 : tBytes Tryz.prog 30 = some 8 := by kernel_rfl
theorem ty57 : Tryz.prog.underlying 30 = some (.int .i64) := by kernel_rfl
theorem ty58 : tAgg Tryz.prog 39 = some false := by kernel_rfl
theorem ty59 : tSize Tryz.prog 39 = some 1 := by kernel_rfl
theorem ty60 : tZero Tryz.prog 39 = some (.map none) := by kernel_rfl
theorem ty61 : tBytes Tryz.prog 39 = some 8 := by kernel_rfl
theorem ty62 : tMap Tryz.prog 39 = some (3, 4) := by kernel_rfl
theorem ty63 : tAgg Tryz.prog 40 = some false := by kernel_rfl
theorem ty64 : tSize Tryz.prog 40 = some 1 := by kernel_rfl
theorem ty65 : tZero Tryz.prog 40 = some (.slice none 0 0) := by kernel_rfl
theorem ty66 : tBytes Tryz.prog 40 = some 24 := by kernel_rfl
theorem ty67 : tElem Tryz.prog 40 = some (none, 3) := by kernel_rfl
theorem ty68 : tAgg Tryz.prog 44 = some false := by kernel_rfl
theorem ty69 : tSize Tryz.prog 44 = some 1 := by kernel_rfl
theorem ty70 : tZero Tryz.prog 44 = some (.slice none 0 0) := by kernel_rfl
theorem ty71 : tBytes Tryz.prog 44 = some 24 := by kernel_rfl
theorem ty72 : tElem Tryz.prog 44 = some (none, 4) := by kernel_rfl
theorem ty73 : tAgg Tryz.prog 59 = some true := by kernel_rfl
theorem ty74 : tSize Tryz.prog 59 = some 2 := by kernel_rfl
theorem ty75 : tZero Tryz.prog 59 = some (.agg #[.slice none 0 0, .slice none 0 0]) := by kernel_rfl
theorem ty76 : tBytes Tryz.prog 59 = some 48 := by kernel_rfl
theorem ty77 : tElem Tryz.prog 59 = some (some 2, 40) := by kernel_rfl
theorem ty78 : tBuild Tryz.prog 59 = some (.agg #[.slice none 0 0, .slice none 0 0], fun i => some (i * 1, 1)) := by kernel_rfl
theorem ty79 : tAgg Tryz.prog 60 = some false := by kernel_rfl
theorem ty80 : tSize Tryz.prog 60 = some 1 := by kernel_rfl
theorem ty81 : tZero Tryz.prog 60 = some (.slice none 0 0) := by kernel_rfl
theorem ty82 : tBytes Tryz.prog 60 = some 24 := by kernel_rfl
theorem ty83 : tElem Tryz.prog 60 = some (none, 25) := by kernel_rfl
theorem ty84 : tAgg Tryz.prog 76 = some true := by kernel_rfl
theorem ty85 : tSize Tryz.prog 76 = some 3 := by kernel_rfl
theorem ty86 : tZero Tryz.prog 76 = some (.agg #[.int .i64 0, .int .i64 0, .int .i64 0]) := by kernel_rfl
theorem ty87 : tBytes Tryz.prog 76 = some 24 := by kernel_rfl
theorem ty88 : tField Tryz.prog 76 0 = some (0, 3) := by kernel_rfl
theorem ty89 : tField Tryz.prog 76 1 = some (1, 3) := by kernel_rfl
theorem ty90 : tField Tryz.prog 76 2 = some (2, 3) := by kernel_rfl
theorem ty91 : tBuild Tryz.prog 76 = some (.agg #[.int .i64 0, .int .i64 0, .int .i64 0], fun i => (#[(0, 1), (1, 1), (2, 1)] : Array (Nat × Nat))[i]?) := by kernel_rfl
theorem ty92 : tAgg Tryz.prog 78 = some false := by kernel_rfl
theorem ty93 : tSize Tryz.prog 78 = some 1 := by kernel_rfl
theorem ty94 : tZero Tryz.prog 78 = some (.slice none 0 0) := by kernel_rfl
theorem ty95 : tBytes Tryz.prog 78 = some 24 := by kernel_rfl
theorem ty96 : tElem Tryz.prog 78 = some (none, 86) := by kernel_rfl
theorem ty97 : tAgg Tryz.prog 86 = some true := by kernel_rfl
theorem ty98 : tSize Tryz.prog 86 = some 2 := by kernel_rfl
theorem ty99 : tZero Tryz.prog 86 = some (.agg #[.int .i64 0, .int .i64 0]) := by kernel_rfl
theorem ty100 : tBytes Tryz.prog 86 = some 16 := by kernel_rfl
theorem ty101 : tElem Tryz.prog 86 = some (some 2, 3) := by kernel_rfl
theorem ty102 : tBuild Tryz.prog 86 = some (.agg #[.int .i64 0, .int .i64 0], fun i => some (i * 1, 1)) := by kernel_rfl
theorem ty103 : tAgg Tryz.prog 105 = some false := by kernel_rfl
theorem ty104 : tSize Tryz.prog 105 = some 1 := by kernel_rfl
theorem ty105 : tZero Tryz.prog 105 = some (.int .u64 0) := by kernel_rfl
theorem ty106 : tBytes Tryz.prog 105 = some 8 := by kernel_rfl
theorem ty107 : Tryz.prog.underlying 105 = some (.int .u64) := by kernel_rfl
theorem ty108 : tAgg Tryz.prog 117 = some false := by kernel_rfl
theorem ty109 : tSize Tryz.prog 117 = some 1 := by kernel_rfl
theorem ty110 : tZero Tryz.prog 117 = some (.map none) := by kernel_rfl
theorem ty111 : tBytes Tryz.prog 117 = some 8 := by kernel_rfl
theorem ty112 : tMap Tryz.prog 117 = some (121, 3) := by kernel_rfl
theorem ty113 : tAgg Tryz.prog 118 = some false := by kernel_rfl
theorem ty114 : tSize Tryz.prog 118 = some 1 := by kernel_rfl
theorem ty115 : tZero Tryz.prog 118 = some (.map none) := by kernel_rfl
theorem ty116 : tBytes Tryz.prog 118 = some 8 := by kernel_rfl
theorem ty117 : tMap Tryz.prog 118 = some (121, 3) := by kernel_rfl
theorem ty118 : tAgg Tryz.prog 121 = some true := by kernel_rfl
theorem ty119 : tSize Tryz.prog 121 = some 2 := by kernel_rfl
theorem ty120 : tZero Tryz.prog 121 = some (.agg #[.int .i64 0, .int .i64 0]) := by kernel_rfl
theorem ty121 : tBytes Tryz.prog 121 = some 16 := by kernel_rfl
theorem ty122 : tField Tryz.prog 121 0 = some (0, 3) := by kernel_rfl
theorem ty123 : tField Tryz.prog 121 1 = some (1, 3) := by kernel_rfl
theorem ty124 : tBuild Tryz.prog 121 = some (.agg #[.int .i64 0, .int .i64 0], fun i => (#[(0, 1), (1, 1)] : Array (Nat × Nat))[i]?) := by kernel_rfl
theorem ty125 : tAgg Tryz.prog 135 = some false := by kernel_rfl
theorem ty126 : tSize Tryz.prog 135 = some 1 := by kernel_rfl
theorem ty127 : tZero Tryz.prog 135 = some (.int .i64 0) := by kernel_rfl
theorem ty128 : tBytes Tryz.prog 135 = some 8 := by kernel_rfl
theorem ty129 : Tryz.prog.underlying 135 = some (.int .i64) := by kernel_rfl
theorem ty130 : tAgg Tryz.prog 143 = some false := by kernel_rfl
theorem ty131 : tSize Tryz.prog 143 = some 1 := by kernel_rfl
theorem ty132 : tZero Tryz.prog 143 = some (.int .u32 0) := by kernel_rfl
theorem ty133 : tBytes Tryz.prog 143 = some 4 := by kernel_rfl
theorem ty134 : Tryz.prog.underlying 143 = some (.int .u32) := by kernel_rfl
theorem ty135 : tAgg Tryz.prog 145 = some false := by kernel_rfl
theorem ty136 : tSize Tryz.prog 145 = some 1 := by kernel_rfl
theorem ty137 : tZero Tryz.prog 145 = some (.int .u64 0) := by kernel_rfl
theorem ty138 : tBytes Tryz.prog 145 = some 8 := by kernel_rfl
theorem ty139 : Tryz.prog.underlying 145 = some (.int .u64) := by kernel_rfl
theorem ty140 : tAgg Tryz.prog 169 = some false := by kernel_rfl
theorem ty141 : tSize Tryz.prog 169 = some 1 := by kernel_rfl
theorem ty142 : tZero Tryz.prog 169 = some (.int .u64 0) := by kernel_rfl
theorem ty143 : tBytes Tryz.prog 169 = some 8 := by kernel_rfl
theorem ty144 : Tryz.prog.underlying 169 = some (.int .u64) := by kernel_rfl
theorem ty145 : tAgg Tryz.prog 173 = some false := by kernel_rfl
theorem ty146 : tSize Tryz.prog 173 = some 1 := by kernel_rfl
theorem ty147 : tZero Tryz.prog 173 = some (.pointer none) := by kernel_rfl
theorem ty148 : tBytes Tryz.prog 173 = some 8 := by kernel_rfl
theorem ty149 : tAgg Tryz.prog 177 = some true := by kernel_rfl
theorem ty150 : tSize Tryz.prog 177 = some 12 := by kernel_rfl
theorem ty151 : tZero Tryz.prog 177 = some (.agg #[.int .i64 0, .int .i64 0, .int .i64 0, .int .i64 0, .int .i64 0, .int .i64 0, .int .i64 0, .int .i64 0, .int .i64 0, .int .i64 0, .int .i64 0, .int .i64 0]) := by kernel_rfl
theorem ty152 : tBytes Tryz.prog 177 = some 96 := by kernel_rfl
theorem ty153 : tElem Tryz.prog 177 = some (some 12, 3) := by kernel_rfl
theorem ty154 : tBuild Tryz.prog 177 = some (.agg #[.int .i64 0, .int .i64 0, .int .i64 0, .int .i64 0, .int .i64 0, .int .i64 0, .int .i64 0, .int .i64 0, .int .i64 0, .int .i64 0, .int .i64 0, .int .i64 0], fun i => some (i * 1, 1)) := by kernel_rfl
theorem ty155 : tAgg Tryz.prog 178 = some true := by kernel_rfl
theorem ty156 : tSize Tryz.prog 178 = some 12 := by kernel_rfl
theorem ty157 : tZero Tryz.prog 178 = some (.agg #[.int .i64 0, .int .i64 0, .int .i64 0, .int .i64 0, .int .i64 0, .int .i64 0, .int .i64 0, .int .i64 0, .int .i64 0, .int .i64 0, .int .i64 0, .int .i64 0]) := by kernel_rfl
theorem ty158 : tBytes Tryz.prog 178 = some 96 := by kernel_rfl
theorem ty159 : tElem Tryz.prog 178 = some (some 12, 3) := by kernel_rfl
theorem ty160 : tBuild Tryz.prog 178 = some (.agg #[.int .i64 0, .int .i64 0, .int .i64 0, .int .i64 0, .int .i64 0, .int .i64 0, .int .i64 0, .int .i64 0, .int .i64 0, .int .i64 0, .int .i64 0, .int .i64 0], fun i => some (i * 1, 1)) := by kernel_rfl
theorem ty161 : tAgg Tryz.prog 196 = some true := by kernel_rfl
theorem ty162 : tSize Tryz.prog 196 = some 12 := by kernel_rfl
theorem ty163 : tZero Tryz.prog 196 = some (.agg #[.int .i64 0, .int .i64 0, .int .i64 0, .int .i64 0, .int .i64 0, .int .i64 0, .int .i64 0, .int .i64 0, .int .i64 0, .int .i64 0, .int .i64 0, .int .i64 0]) := by kernel_rfl
theorem ty164 : tBytes Tryz.prog 196 = some 96 := by kernel_rfl
theorem ty165 : tElem Tryz.prog 196 = some (some 12, 3) := by kernel_rfl
theorem ty166 : tBuild Tryz.prog 196 = some (.agg #[.int .i64 0, .int .i64 0, .int .i64 0, .int .i64 0, .int .i64 0, .int .i64 0, .int .i64 0, .int .i64 0, .int .i64 0, .int .i64 0, .int .i64 0, .int .i64 0], fun i => some (i * 1, 1)) := by kernel_rfl
theorem ty167 : tAgg Tryz.prog 198 = some false := by kernel_rfl
theorem ty168 : tSize Tryz.prog 198 = some 1 := by kernel_rfl
theorem ty169 : tZero Tryz.prog 198 = some (.pointer none) := by kernel_rfl
theorem ty170 : tBytes Tryz.prog 198 = some 8 := by kernel_rfl
theorem ty171 : tAgg Tryz.prog 201 = some false := by kernel_rfl
theorem ty172 : tSize Tryz.prog 201 = some 1 := by kernel_rfl
theorem ty173 : tZero Tryz.prog 201 = some (.pointer none) := by kernel_rfl
theorem ty174 : tBytes Tryz.prog 201 = some 8 := by kernel_rfl
theorem ty175 : tAgg Tryz.prog 211 = some false := by kernel_rfl
theorem ty176 : tSize Tryz.prog 211 = some 1 := by kernel_rfl
theorem ty177 : tZero Tryz.prog 211 = some (.pointer none) := by kernel_rfl
theorem ty178 : tBytes Tryz.prog 211 = some 8 := by kernel_rfl
theorem ty179 : tAgg Tryz.prog 212 = some false := by kernel_rfl
theorem ty180 : tSize Tryz.prog 212 = some 1 := by kernel_rfl
theorem ty181 : tZero Tryz.prog 212 = some (.map none) := by kernel_rfl
theorem ty182 : tBytes Tryz.prog 212 = some 8 := by kernel_rfl
theorem ty183 : tMap Tryz.prog 212 = some (3, 3) := by kernel_rfl
theorem ty184 : tAgg Tryz.prog 227 = some false := by kernel_rfl
theorem ty185 : tSize Tryz.prog 227 = some 1 := by kernel_rfl
theorem ty186 : tZero Tryz.prog 227 = some (.pointer none) := by kernel_rfl
theorem ty187 : tBytes Tryz.prog 227 = some 8 := by kernel_rfl
theorem tyg0 :
  (tAgg Tryz.prog 2 = some false) ∧
  (tSize Tryz.prog 2 = some 1) ∧
  (tZero Tryz.prog 2 = some (.int .i64 0)) ∧
  (tBytes Tryz.prog 2 = some 8) ∧
  (Tryz.prog.underlying 2 = some (.int .i64)) ∧
  (tAgg Tryz.prog 3 = some false) ∧
  (tSize Tryz.prog 3 = some 1) ∧
  (tZero Tryz.prog 3 = some (.int .i64 0)) ∧
  (tBytes Tryz.prog 3 = some 8) ∧
  (Tryz.prog.underlying 3 = some (.int .i64)) ∧
  (tAgg Tryz.prog 4 = some false) ∧
  (tSize Tryz.prog 4 = some 1) ∧
  (tZero Tryz.prog 4 = some (.bool false)) ∧
  (tBytes Tryz.prog 4 = some 1) ∧
  (Tryz.prog.underlying 4 = some .bool) ∧
  (tAgg Tryz.prog 5 = some false) :=
  ⟨ty0, ty1, ty2, ty3, ty4, ty5, ty6, ty7, ty8, ty9, ty10, ty11, ty12, ty13, ty14, ty15⟩
theorem tyg1 :
  (tSize Tryz.prog 5 = some 1) ∧
  (tZero Tryz.prog 5 = some (.int .u8 0)) ∧
  (tBytes Tryz.prog 5 = some 1) ∧
  (Tryz.prog.underlying 5 = some (.int .u8)) ∧
  (tAgg Tryz.prog 9 = some false) ∧
  (tSize Tryz.prog 9 = some 1) ∧
  (tZero Tryz.prog 9 = some (.string ByteArray.empty)) ∧
  (tBytes Tryz.prog 9 = some 16) ∧
  (tAgg Tryz.prog 21 = some false) ∧
  (tSize Tryz.prog 21 = some 1) ∧
  (tZero Tryz.prog 21 = some (.int .i32 0)) ∧
  (tBytes Tryz.prog 21 = some 4) ∧
  (Tryz.prog.underlying 21 = some (.int .i32)) ∧
  (tAgg Tryz.prog 22 = some false) ∧
  (tSize Tryz.prog 22 = some 1) ∧
  (tZero Tryz.prog 22 = some (.slice none 0 0)) :=
  ⟨ty16, ty17, ty18, ty19, ty20, ty21, ty22, ty23, ty24, ty25, ty26, ty27, ty28, ty29, ty30, ty31⟩
theorem tyg2 :
  (tBytes Tryz.prog 22 = some 24) ∧
  (tElem Tryz.prog 22 = some (none, 76)) ∧
  (tAgg Tryz.prog 24 = some true) ∧
  (tSize Tryz.prog 24 = some 2) ∧
  (tZero Tryz.prog 24 = some (.agg #[.int .i64 0, .slice none 0 0])) ∧
  (tBytes Tryz.prog 24 = some 32) ∧
  (tField Tryz.prog 24 0 = some (0, 3)) ∧
  (tField Tryz.prog 24 1 = some (1, 22)) ∧
  (tBuild Tryz.prog 24 = some (.agg #[.int .i64 0, .slice none 0 0], fun i => (#[(0, 1), (1, 1)] : Array (Nat × Nat))[i]?)) ∧
  (tAgg Tryz.prog 25 = some false) ∧
  (tSize Tryz.prog 25 = some 1) ∧
  (tZero Tryz.prog 25 = some (.slice none 0 0)) ∧
  (tBytes Tryz.prog 25 = some 24) ∧
  (tElem Tryz.prog 25 = some (none, 40)) ∧
  (tAgg Tryz.prog 27 = some true) ∧
  (tSize Tryz.prog 27 = some 3) :=
  ⟨ty32, ty33, ty34, ty35, ty36, ty37, ty38, ty39, ty40, ty41, ty42, ty43, ty44, ty45, ty46, ty47⟩
theorem tyg3 :
  (tZero Tryz.prog 27 = some (.agg #[.int .i64 0, .slice none 0 0, .slice none 0 0])) ∧
  (tBytes Tryz.prog 27 = some 56) ∧
  (tField Tryz.prog 27 0 = some (0, 24)) ∧
  (tField Tryz.prog 27 1 = some (2, 25)) ∧
  (tBuild Tryz.prog 27 = some (.agg #[.int .i64 0, .slice none 0 0, .slice none 0 0], fun i => (#[(0, 2), (2, 1)] : Array (Nat × Nat))[i]?)) ∧
  (tAgg Tryz.prog 30 = some false) ∧
  (tSize Tryz.prog 30 = some 1) ∧
  (tZero Tryz.prog 30 = some (.int .i64 0)) ∧
  (tBytes Tryz.prog 30 = some 8) ∧
  (Tryz.prog.underlying 30 = some (.int .i64)) ∧
  (tAgg Tryz.prog 39 = some false) ∧
  (tSize Tryz.prog 39 = some 1) ∧
  (tZero Tryz.prog 39 = some (.map none)) ∧
  (tBytes Tryz.prog 39 = some 8) ∧
  (tMap Tryz.prog 39 = some (3, 4)) ∧
  (tAgg Tryz.prog 40 = some false) :=
  ⟨ty48, ty49, ty50, ty51, ty52, ty53, ty54, ty55, ty56, ty57, ty58, ty59, ty60, ty61, ty62, ty63⟩
theorem tyg4 :
  (tSize Tryz.prog 40 = some 1) ∧
  (tZero Tryz.prog 40 = some (.slice none 0 0)) ∧
  (tBytes Tryz.prog 40 = some 24) ∧
  (tElem Tryz.prog 40 = some (none, 3)) ∧
  (tAgg Tryz.prog 44 = some false) ∧
  (tSize Tryz.prog 44 = some 1) ∧
  (tZero Tryz.prog 44 = some (.slice none 0 0)) ∧
  (tBytes Tryz.prog 44 = some 24) ∧
  (tElem Tryz.prog 44 = some (none, 4)) ∧
  (tAgg Tryz.prog 59 = some true) ∧
  (tSize Tryz.prog 59 = some 2) ∧
  (tZero Tryz.prog 59 = some (.agg #[.slice none 0 0, .slice none 0 0])) ∧
  (tBytes Tryz.prog 59 = some 48) ∧
  (tElem Tryz.prog 59 = some (some 2, 40)) ∧
  (tBuild Tryz.prog 59 = some (.agg #[.slice none 0 0, .slice none 0 0], fun i => some (i * 1, 1))) ∧
  (tAgg Tryz.prog 60 = some false) :=
  ⟨ty64, ty65, ty66, ty67, ty68, ty69, ty70, ty71, ty72, ty73, ty74, ty75, ty76, ty77, ty78, ty79⟩
theorem tyg5 :
  (tSize Tryz.prog 60 = some 1) ∧
  (tZero Tryz.prog 60 = some (.slice none 0 0)) ∧
  (tBytes Tryz.prog 60 = some 24) ∧
  (tElem Tryz.prog 60 = some (none, 25)) ∧
  (tAgg Tryz.prog 76 = some true) ∧
  (tSize Tryz.prog 76 = some 3) ∧
  (tZero Tryz.prog 76 = some (.agg #[.int .i64 0, .int .i64 0, .int .i64 0])) ∧
  (tBytes Tryz.prog 76 = some 24) ∧
  (tField Tryz.prog 76 0 = some (0, 3)) ∧
  (tField Tryz.prog 76 1 = some (1, 3)) ∧
  (tField Tryz.prog 76 2 = some (2, 3)) ∧
  (tBuild Tryz.prog 76 = some (.agg #[.int .i64 0, .int .i64 0, .int .i64 0], fun i => (#[(0, 1), (1, 1), (2, 1)] : Array (Nat × Nat))[i]?)) ∧
  (tAgg Tryz.prog 78 = some false) ∧
  (tSize Tryz.prog 78 = some 1) ∧
  (tZero Tryz.prog 78 = some (.slice none 0 0)) ∧
  (tBytes Tryz.prog 78 = some 24) :=
  ⟨ty80, ty81, ty82, ty83, ty84, ty85, ty86, ty87, ty88, ty89, ty90, ty91, ty92, ty93, ty94, ty95⟩
theorem tyg6 :
  (tElem Tryz.prog 78 = some (none, 86)) ∧
  (tAgg Tryz.prog 86 = some true) ∧
  (tSize Tryz.prog 86 = some 2) ∧
  (tZero Tryz.prog 86 = some (.agg #[.int .i64 0, .int .i64 0])) ∧
  (tBytes Tryz.prog 86 = some 16) ∧
  (tElem Tryz.prog 86 = some (some 2, 3)) ∧
  (tBuild Tryz.prog 86 = some (.agg #[.int .i64 0, .int .i64 0], fun i => some (i * 1, 1))) ∧
  (tAgg Tryz.prog 105 = some false) ∧
  (tSize Tryz.prog 105 = some 1) ∧
  (tZero Tryz.prog 105 = some (.int .u64 0)) ∧
  (tBytes Tryz.prog 105 = some 8) ∧
  (Tryz.prog.underlying 105 = some (.int .u64)) ∧
  (tAgg Tryz.prog 117 = some false) ∧
  (tSize Tryz.prog 117 = some 1) ∧
  (tZero Tryz.prog 117 = some (.map none)) ∧
  (tBytes Tryz.prog 117 = some 8) :=
  ⟨ty96, ty97, ty98, ty99, ty100, ty101, ty102, ty103, ty104, ty105, ty106, ty107, ty108, ty109, ty110, ty111⟩
theorem tyg7 :
  (tMap Tryz.prog 117 = some (121, 3)) ∧
  (tAgg Tryz.prog 118 = some false) ∧
  (tSize Tryz.prog 118 = some 1) ∧
  (tZero Tryz.prog 118 = some (.map none)) ∧
  (tBytes Tryz.prog 118 = some 8) ∧
  (tMap Tryz.prog 118 = some (121, 3)) ∧
  (tAgg Tryz.prog 121 = some true) ∧
  (tSize Tryz.prog 121 = some 2) ∧
  (tZero Tryz.prog 121 = some (.agg #[.int .i64 0, .int .i64 0])) ∧
  (tBytes Tryz.prog 121 = some 16) ∧
  (tField Tryz.prog 121 0 = some (0, 3)) ∧
  (tField Tryz.prog 121 1 = some (1, 3)) ∧
  (tBuild Tryz.prog 121 = some (.agg #[.int .i64 0, .int .i64 0], fun i => (#[(0, 1), (1, 1)] : Array (Nat × Nat))[i]?)) ∧
  (tAgg Tryz.prog 135 = some false) ∧
  (tSize Tryz.prog 135 = some 1) ∧
  (tZero Tryz.prog 135 = some (.int .i64 0)) :=
  ⟨ty112, ty113, ty114, ty115, ty116, ty117, ty118, ty119, ty120, ty121, ty122, ty123, ty124, ty125, ty126, ty127⟩
theorem tyg8 :
  (tBytes Tryz.prog 135 = some 8) ∧
  (Tryz.prog.underlying 135 = some (.int .i64)) ∧
  (tAgg Tryz.prog 143 = some false) ∧
  (tSize Tryz.prog 143 = some 1) ∧
  (tZero Tryz.prog 143 = some (.int .u32 0)) ∧
  (tBytes Tryz.prog 143 = some 4) ∧
  (Tryz.prog.underlying 143 = some (.int .u32)) ∧
  (tAgg Tryz.prog 145 = some false) ∧
  (tSize Tryz.prog 145 = some 1) ∧
  (tZero Tryz.prog 145 = some (.int .u64 0)) ∧
  (tBytes Tryz.prog 145 = some 8) ∧
  (Tryz.prog.underlying 145 = some (.int .u64)) ∧
  (tAgg Tryz.prog 169 = some false) ∧
  (tSize Tryz.prog 169 = some 1) ∧
  (tZero Tryz.prog 169 = some (.int .u64 0)) ∧
  (tBytes Tryz.prog 169 = some 8) :=
  ⟨ty128, ty129, ty130, ty131, ty132, ty133, ty134, ty135, ty136, ty137, ty138, ty139, ty140, ty141, ty142, ty143⟩
theorem tyg9 :
  (Tryz.prog.underlying 169 = some (.int .u64)) ∧
  (tAgg Tryz.prog 173 = some false) ∧
  (tSize Tryz.prog 173 = some 1) ∧
  (tZero Tryz.prog 173 = some (.pointer none)) ∧
  (tBytes Tryz.prog 173 = some 8) ∧
  (tAgg Tryz.prog 177 = some true) ∧
  (tSize Tryz.prog 177 = some 12) ∧
  (tZero Tryz.prog 177 = some (.agg #[.int .i64 0, .int .i64 0, .int .i64 0, .int .i64 0, .int .i64 0, .int .i64 0, .int .i64 0, .int .i64 0, .int .i64 0, .int .i64 0, .int .i64 0, .int .i64 0])) ∧
  (tBytes Tryz.prog 177 = some 96) ∧
  (tElem Tryz.prog 177 = some (some 12, 3)) ∧
  (tBuild Tryz.prog 177 = some (.agg #[.int .i64 0, .int .i64 0, .int .i64 0, .int .i64 0, .int .i64 0, .int .i64 0, .int .i64 0, .int .i64 0, .int .i64 0, .int .i64 0, .int .i64 0, .int .i64 0], fun i => some (i * 1, 1))) ∧
  (tAgg Tryz.prog 178 = some true) ∧
  (tSize Tryz.prog 178 = some 12) ∧
  (tZero Tryz.prog 178 = some (.agg #[.int .i64 0, .int .i64 0, .int .i64 0, .int .i64 0, .int .i64 0, .int .i64 0, .int .i64 0, .int .i64 0, .int .i64 0, .int .i64 0, .int .i64 0, .int .i64 0])) ∧
  (tBytes Tryz.prog 178 = some 96) ∧
  (tElem Tryz.prog 178 = some (some 12, 3)) :=
  ⟨ty144, ty145, ty146, ty147, ty148, ty149, ty150, ty151, ty152, ty153, ty154, ty155, ty156, ty157, ty158, ty159⟩
theorem tyg10 :
  (tBuild Tryz.prog 178 = some (.agg #[.int .i64 0, .int .i64 0, .int .i64 0, .int .i64 0, .int .i64 0, .int .i64 0, .int .i64 0, .int .i64 0, .int .i64 0, .int .i64 0, .int .i64 0, .int .i64 0], fun i => some (i * 1, 1))) ∧
  (tAgg Tryz.prog 196 = some true) ∧
  (tSize Tryz.prog 196 = some 12) ∧
  (tZero Tryz.prog 196 = some (.agg #[.int .i64 0, .int .i64 0, .int .i64 0, .int .i64 0, .int .i64 0, .int .i64 0, .int .i64 0, .int .i64 0, .int .i64 0, .int .i64 0, .int .i64 0, .int .i64 0])) ∧
  (tBytes Tryz.prog 196 = some 96) ∧
  (tElem Tryz.prog 196 = some (some 12, 3)) ∧
  (tBuild Tryz.prog 196 = some (.agg #[.int .i64 0, .int .i64 0, .int .i64 0, .int .i64 0, .int .i64 0, .int .i64 0, .int .i64 0, .int .i64 0, .int .i64 0, .int .i64 0, .int .i64 0, .int .i64 0], fun i => some (i * 1, 1))) ∧
  (tAgg Tryz.prog 198 = some false) ∧
  (tSize Tryz.prog 198 = some 1) ∧
  (tZero Tryz.prog 198 = some (.pointer none)) ∧
  (tBytes Tryz.prog 198 = some 8) ∧
  (tAgg Tryz.prog 201 = some false) ∧
  (tSize Tryz.prog 201 = some 1) ∧
  (tZero Tryz.prog 201 = some (.pointer none)) ∧
  (tBytes Tryz.prog 201 = some 8) ∧
  (tAgg Tryz.prog 211 = some false) :=
  ⟨ty160, ty161, ty162, ty163, ty164, ty165, ty166, ty167, ty168, ty169, ty170, ty171, ty172, ty173, ty174, ty175⟩
theorem tyg11 :
  (tSize Tryz.prog 211 = some 1) ∧
  (tZero Tryz.prog 211 = some (.pointer none)) ∧
  (tBytes Tryz.prog 211 = some 8) ∧
  (tAgg Tryz.prog 212 = some false) ∧
  (tSize Tryz.prog 212 = some 1) ∧
  (tZero Tryz.prog 212 = some (.map none)) ∧
  (tBytes Tryz.prog 212 = some 8) ∧
  (tMap Tryz.prog 212 = some (3, 3)) ∧
  (tAgg Tryz.prog 227 = some false) ∧
  (tSize Tryz.prog 227 = some 1) ∧
  (tZero Tryz.prog 227 = some (.pointer none)) ∧
  (tBytes Tryz.prog 227 = some 8) :=
  ⟨ty176, ty177, ty178, ty179, ty180, ty181, ty182, ty183, ty184, ty185, ty186, ty187⟩
theorem ty :
  ((tAgg Tryz.prog 2 = some false) ∧ (tSize Tryz.prog 2 = some 1) ∧ (tZero Tryz.prog 2 = some (.int .i64 0)) ∧ (tBytes Tryz.prog 2 = some 8) ∧ (Tryz.prog.underlying 2 = some (.int .i64)) ∧ (tAgg Tryz.prog 3 = some false) ∧ (tSize Tryz.prog 3 = some 1) ∧ (tZero Tryz.prog 3 = some (.int .i64 0)) ∧ (tBytes Tryz.prog 3 = some 8) ∧ (Tryz.prog.underlying 3 = some (.int .i64)) ∧ (tAgg Tryz.prog 4 = some false) ∧ (tSize Tryz.prog 4 = some 1) ∧ (tZero Tryz.prog 4 = some (.bool false)) ∧ (tBytes Tryz.prog 4 = some 1) ∧ (Tryz.prog.underlying 4 = some .bool) ∧ (tAgg Tryz.prog 5 = some false)) ∧
  ((tSize Tryz.prog 5 = some 1) ∧ (tZero Tryz.prog 5 = some (.int .u8 0)) ∧ (tBytes Tryz.prog 5 = some 1) ∧ (Tryz.prog.underlying 5 = some (.int .u8)) ∧ (tAgg Tryz.prog 9 = some false) ∧ (tSize Tryz.prog 9 = some 1) ∧ (tZero Tryz.prog 9 = some (.string ByteArray.empty)) ∧ (tBytes Tryz.prog 9 = some 16) ∧ (tAgg Tryz.prog 21 = some false) ∧ (tSize Tryz.prog 21 = some 1) ∧ (tZero Tryz.prog 21 = some (.int .i32 0)) ∧ (tBytes Tryz.prog 21 = some 4) ∧ (Tryz.prog.underlying 21 = some (.int .i32)) ∧ (tAgg Tryz.prog 22 = some false) ∧ (tSize Tryz.prog 22 = some 1) ∧ (tZero Tryz.prog 22 = some (.slice none 0 0))) ∧
  ((tBytes Tryz.prog 22 = some 24) ∧ (tElem Tryz.prog 22 = some (none, 76)) ∧ (tAgg Tryz.prog 24 = some true) ∧ (tSize Tryz.prog 24 = some 2) ∧ (tZero Tryz.prog 24 = some (.agg #[.int .i64 0, .slice none 0 0])) ∧ (tBytes Tryz.prog 24 = some 32) ∧ (tField Tryz.prog 24 0 = some (0, 3)) ∧ (tField Tryz.prog 24 1 = some (1, 22)) ∧ (tBuild Tryz.prog 24 = some (.agg #[.int .i64 0, .slice none 0 0], fun i => (#[(0, 1), (1, 1)] : Array (Nat × Nat))[i]?)) ∧ (tAgg Tryz.prog 25 = some false) ∧ (tSize Tryz.prog 25 = some 1) ∧ (tZero Tryz.prog 25 = some (.slice none 0 0)) ∧ (tBytes Tryz.prog 25 = some 24) ∧ (tElem Tryz.prog 25 = some (none, 40)) ∧ (tAgg Tryz.prog 27 = some true) ∧ (tSize Tryz.prog 27 = some 3)) ∧
  ((tZero Tryz.prog 27 = some (.agg #[.int .i64 0, .slice none 0 0, .slice none 0 0])) ∧ (tBytes Tryz.prog 27 = some 56) ∧ (tField Tryz.prog 27 0 = some (0, 24)) ∧ (tField Tryz.prog 27 1 = some (2, 25)) ∧ (tBuild Tryz.prog 27 = some (.agg #[.int .i64 0, .slice none 0 0, .slice none 0 0], fun i => (#[(0, 2), (2, 1)] : Array (Nat × Nat))[i]?)) ∧ (tAgg Tryz.prog 30 = some false) ∧ (tSize Tryz.prog 30 = some 1) ∧ (tZero Tryz.prog 30 = some (.int .i64 0)) ∧ (tBytes Tryz.prog 30 = some 8) ∧ (Tryz.prog.underlying 30 = some (.int .i64)) ∧ (tAgg Tryz.prog 39 = some false) ∧ (tSize Tryz.prog 39 = some 1) ∧ (tZero Tryz.prog 39 = some (.map none)) ∧ (tBytes Tryz.prog 39 = some 8) ∧ (tMap Tryz.prog 39 = some (3, 4)) ∧ (tAgg Tryz.prog 40 = some false)) ∧
  ((tSize Tryz.prog 40 = some 1) ∧ (tZero Tryz.prog 40 = some (.slice none 0 0)) ∧ (tBytes Tryz.prog 40 = some 24) ∧ (tElem Tryz.prog 40 = some (none, 3)) ∧ (tAgg Tryz.prog 44 = some false) ∧ (tSize Tryz.prog 44 = some 1) ∧ (tZero Tryz.prog 44 = some (.slice none 0 0)) ∧ (tBytes Tryz.prog 44 = some 24) ∧ (tElem Tryz.prog 44 = some (none, 4)) ∧ (tAgg Tryz.prog 59 = some true) ∧ (tSize Tryz.prog 59 = some 2) ∧ (tZero Tryz.prog 59 = some (.agg #[.slice none 0 0, .slice none 0 0])) ∧ (tBytes Tryz.prog 59 = some 48) ∧ (tElem Tryz.prog 59 = some (some 2, 40)) ∧ (tBuild Tryz.prog 59 = some (.agg #[.slice none 0 0, .slice none 0 0], fun i => some (i * 1, 1))) ∧ (tAgg Tryz.prog 60 = some false)) ∧
  ((tSize Tryz.prog 60 = some 1) ∧ (tZero Tryz.prog 60 = some (.slice none 0 0)) ∧ (tBytes Tryz.prog 60 = some 24) ∧ (tElem Tryz.prog 60 = some (none, 25)) ∧ (tAgg Tryz.prog 76 = some true) ∧ (tSize Tryz.prog 76 = some 3) ∧ (tZero Tryz.prog 76 = some (.agg #[.int .i64 0, .int .i64 0, .int .i64 0])) ∧ (tBytes Tryz.prog 76 = some 24) ∧ (tField Tryz.prog 76 0 = some (0, 3)) ∧ (tField Tryz.prog 76 1 = some (1, 3)) ∧ (tField Tryz.prog 76 2 = some (2, 3)) ∧ (tBuild Tryz.prog 76 = some (.agg #[.int .i64 0, .int .i64 0, .int .i64 0], fun i => (#[(0, 1), (1, 1), (2, 1)] : Array (Nat × Nat))[i]?)) ∧ (tAgg Tryz.prog 78 = some false) ∧ (tSize Tryz.prog 78 = some 1) ∧ (tZero Tryz.prog 78 = some (.slice none 0 0)) ∧ (tBytes Tryz.prog 78 = some 24)) ∧
  ((tElem Tryz.prog 78 = some (none, 86)) ∧ (tAgg Tryz.prog 86 = some true) ∧ (tSize Tryz.prog 86 = some 2) ∧ (tZero Tryz.prog 86 = some (.agg #[.int .i64 0, .int .i64 0])) ∧ (tBytes Tryz.prog 86 = some 16) ∧ (tElem Tryz.prog 86 = some (some 2, 3)) ∧ (tBuild Tryz.prog 86 = some (.agg #[.int .i64 0, .int .i64 0], fun i => some (i * 1, 1))) ∧ (tAgg Tryz.prog 105 = some false) ∧ (tSize Tryz.prog 105 = some 1) ∧ (tZero Tryz.prog 105 = some (.int .u64 0)) ∧ (tBytes Tryz.prog 105 = some 8) ∧ (Tryz.prog.underlying 105 = some (.int .u64)) ∧ (tAgg Tryz.prog 117 = some false) ∧ (tSize Tryz.prog 117 = some 1) ∧ (tZero Tryz.prog 117 = some (.map none)) ∧ (tBytes Tryz.prog 117 = some 8)) ∧
  ((tMap Tryz.prog 117 = some (121, 3)) ∧ (tAgg Tryz.prog 118 = some false) ∧ (tSize Tryz.prog 118 = some 1) ∧ (tZero Tryz.prog 118 = some (.map none)) ∧ (tBytes Tryz.prog 118 = some 8) ∧ (tMap Tryz.prog 118 = some (121, 3)) ∧ (tAgg Tryz.prog 121 = some true) ∧ (tSize Tryz.prog 121 = some 2) ∧ (tZero Tryz.prog 121 = some (.agg #[.int .i64 0, .int .i64 0])) ∧ (tBytes Tryz.prog 121 = some 16) ∧ (tField Tryz.prog 121 0 = some (0, 3)) ∧ (tField Tryz.prog 121 1 = some (1, 3)) ∧ (tBuild Tryz.prog 121 = some (.agg #[.int .i64 0, .int .i64 0], fun i => (#[(0, 1), (1, 1)] : Array (Nat × Nat))[i]?)) ∧ (tAgg Tryz.prog 135 = some false) ∧ (tSize Tryz.prog 135 = some 1) ∧ (tZero Tryz.prog 135 = some (.int .i64 0))) ∧
  ((tBytes Tryz.prog 135 = some 8) ∧ (Tryz.prog.underlying 135 = some (.int .i64)) ∧ (tAgg Tryz.prog 143 = some false) ∧ (tSize Tryz.prog 143 = some 1) ∧ (tZero Tryz.prog 143 = some (.int .u32 0)) ∧ (tBytes Tryz.prog 143 = some 4) ∧ (Tryz.prog.underlying 143 = some (.int .u32)) ∧ (tAgg Tryz.prog 145 = some false) ∧ (tSize Tryz.prog 145 = some 1) ∧ (tZero Tryz.prog 145 = some (.int .u64 0)) ∧ (tBytes Tryz.prog 145 = some 8) ∧ (Tryz.prog.underlying 145 = some (.int .u64)) ∧ (tAgg Tryz.prog 169 = some false) ∧ (tSize Tryz.prog 169 = some 1) ∧ (tZero Tryz.prog 169 = some (.int .u64 0)) ∧ (tBytes Tryz.prog 169 = some 8)) ∧
  ((Tryz.prog.underlying 169 = some (.int .u64)) ∧ (tAgg Tryz.prog 173 = some false) ∧ (tSize Tryz.prog 173 = some 1) ∧ (tZero Tryz.prog 173 = some (.pointer none)) ∧ (tBytes Tryz.prog 173 = some 8) ∧ (tAgg Tryz.prog 177 = some true) ∧ (tSize Tryz.prog 177 = some 12) ∧ (tZero Tryz.prog 177 = some (.agg #[.int .i64 0, .int .i64 0, .int .i64 0, .int .i64 0, .int .i64 0, .int .i64 0, .int .i64 0, .int .i64 0, .int .i64 0, .int .i64 0, .int .i64 0, .int .i64 0])) ∧ (tBytes Tryz.prog 177 = some 96) ∧ (tElem Tryz.prog 177 = some (some 12, 3)) ∧ (tBuild Tryz.prog 177 = some (.agg #[.int .i64 0, .int .i64 0, .int .i64 0, .int .i64 0, .int .i64 0, .int .i64 0, .int .i64 0, .int .i64 0, .int .i64 0, .int .i64 0, .int .i64 0, .int .i64 0], fun i => some (i * 1, 1))) ∧ (tAgg Tryz.prog 178 = some true) ∧ (tSize Tryz.prog 178 = some 12) ∧ (tZero Tryz.prog 178 = some (.agg #[.int .i64 0, .int .i64 0, .int .i64 0, .int .i64 0, .int .i64 0, .int .i64 0, .int .i64 0, .int .i64 0, .int .i64 0, .int .i64 0, .int .i64 0, .int .i64 0])) ∧ (tBytes Tryz.prog 178 = some 96) ∧ (tElem Tryz.prog 178 = some (some 12, 3))) ∧
  ((tBuild Tryz.prog 178 = some (.agg #[.int .i64 0, .int .i64 0, .int .i64 0, .int .i64 0, .int .i64 0, .int .i64 0, .int .i64 0, .int .i64 0, .int .i64 0, .int .i64 0, .int .i64 0, .int .i64 0], fun i => some (i * 1, 1))) ∧ (tAgg Tryz.prog 196 = some true) ∧ (tSize Tryz.prog 196 = some 12) ∧ (tZero Tryz.prog 196 = some (.agg #[.int .i64 0, .int .i64 0, .int .i64 0, .int .i64 0, .int .i64 0, .int .i64 0, .int .i64 0, .int .i64 0, .int .i64 0, .int .i64 0, .int .i64 0, .int .i64 0])) ∧ (tBytes Tryz.prog 196 = some 96) ∧ (tElem Tryz.prog 196 = some (some 12, 3)) ∧ (tBuild Tryz.prog 196 = some (.agg #[.int .i64 0, .int .i64 0, .int .i64 0, .int .i64 0, .int .i64 0, .int .i64 0, .int .i64 0, .int .i64 0, .int .i64 0, .int .i64 0, .int .i64 0, .int .i64 0], fun i => some (i * 1, 1))) ∧ (tAgg Tryz.prog 198 = some false) ∧ (tSize Tryz.prog 198 = some 1) ∧ (tZero Tryz.prog 198 = some (.pointer none)) ∧ (tBytes Tryz.prog 198 = some 8) ∧ (tAgg Tryz.prog 201 = some false) ∧ (tSize Tryz.prog 201 = some 1) ∧ (tZero Tryz.prog 201 = some (.pointer none)) ∧ (tBytes Tryz.prog 201 = some 8) ∧ (tAgg Tryz.prog 211 = some false)) ∧
  ((tSize Tryz.prog 211 = some 1) ∧ (tZero Tryz.prog 211 = some (.pointer none)) ∧ (tBytes Tryz.prog 211 = some 8) ∧ (tAgg Tryz.prog 212 = some false) ∧ (tSize Tryz.prog 212 = some 1) ∧ (tZero Tryz.prog 212 = some (.map none)) ∧ (tBytes Tryz.prog 212 = some 8) ∧ (tMap Tryz.prog 212 = some (3, 3)) ∧ (tAgg Tryz.prog 227 = some false) ∧ (tSize Tryz.prog 227 = some 1) ∧ (tZero Tryz.prog 227 = some (.pointer none)) ∧ (tBytes Tryz.prog 227 = some 8)) :=
  ⟨tyg0, tyg1, tyg2, tyg3, tyg4, tyg5, tyg6, tyg7, tyg8, tyg9, tyg10, tyg11⟩
attribute [go_sem] ty
end Go.Proofs.YtfkegnhpihoncaaGreat
set_option linter.all false
namespace Go.Proofs.YtfkegnhpihoncaaGreat
open Go.Sp
set_option linter.unusedSimpArgs false
set_option linter.unusedVariables false
set_option maxHeartbeats 4000000
set_option maxRecDepth 100000
def tint (n : Int) : TVal := .t (.int .i64 n)
def tbool (b : Bool) : TVal := .t (.bool b)
def tpair (a b : Int) : TVal := .agg [.int .i64 a, .int .i64 b]
attribute [go_sem] tint tbool tpair
theorem isNaN_ok (n : Int) : ACall Tryz.prog 141 [tint n] (tbool false) := by
  refine ACall.of_body Tryz.func141 rfl (by kernel_rfl) ?_
  simp only [entry, Tryz.ntmps141, tint]
  refine zU ?_
  repeat' (first|((first|(refine zT ?_;intro K' hK')|(refine zG ?_ ?_<;>(try refine zH ?_)<;>intro hguard<;>(try exact zX)<;>try intro K' hK'))<;>((try simp +contextual only [go_sem]);(repeat' first|(with_reducible refine hK' _ _ ?_;clear hK' K')|exact zY|with_reducible refine And.intro ?_ ?_|(with_reducible intro hpath;try exact zP)|(refine hK' _ _ ?_;clear hK' K')|fail);try refine zS ?_))|(refine zE ?_;refine hK _ _ ?_;clear hK K)|(refine zN ?_;try refine zS ?_)|refine zA ?_|(refine zB ?_;intro K hK)|(refine zC ?_ ?_<;>(try refine zH ?_)<;>intro hcond<;>try exact zX)|fail)
  simp [Rets, aret, Blk.cells, ty, Tryz.results141, ares, toT1, toT, borrow, borrow0, capCell, toTree0, tbool]
theorem vertex_ok (n v : Int) : ACall Tryz.prog 97 [tint n, tint v] (tbool (decide (0 ≤ v ∧ v < n))) := by
  refine ACall.of_body Tryz.func97 rfl (by kernel_rfl) ?_
  simp only [entry, Tryz.ntmps97, tint]
  refine zU ?_
  repeat' (first|((first|(refine zT ?_;intro K' hK')|(refine zG ?_ ?_<;>(try refine zH ?_)<;>intro hguard<;>(try exact zX)<;>try intro K' hK'))<;>((try simp +contextual only [go_sem]);(repeat' first|(with_reducible refine hK' _ _ ?_;clear hK' K')|exact zY|with_reducible refine And.intro ?_ ?_|(with_reducible intro hpath;try exact zP)|(refine hK' _ _ ?_;clear hK' K')|fail);try refine zS ?_))|(refine zE ?_;refine hK _ _ ?_;clear hK K)|(refine zN ?_;try refine zS ?_)|refine zA ?_|(refine zB ?_;intro K hK)|(refine zC ?_ ?_<;>(try refine zH ?_)<;>intro hcond<;>try exact zX)|fail)
  all_goals
    simp [Rets, aret, Blk.cells, ty, Tryz.results97, ares, toT1, toT, borrow, borrow0, capCell, toTree0, tbool]
  all_goals omega
def cmpI (a b : Int) : Int := if a < b then -1 else if b < a then 1 else 0
theorem Compare_ok (a b : Int) : ACall Tryz.prog 103 [tint a, tint b] (tint (cmpI a b)) := by
  refine ACall.of_body Tryz.func103 rfl (by kernel_rfl) ?_
  simp only [entry, Tryz.ntmps103, tint]
  refine zU ?_
  repeat' (first|((first|(refine zT ?_;intro K' hK')|(refine zG ?_ ?_<;>(try refine zH ?_)<;>intro hguard<;>(try exact zX)<;>try intro K' hK'))<;>((try simp +contextual only [go_sem]);(repeat' first|(with_reducible refine hK' _ _ ?_;clear hK' K')|(with_reducible refine zK (isNaN_ok _) ?_;try simp +contextual only [go_sem])|exact zY|with_reducible refine And.intro ?_ ?_|(with_reducible intro hpath;try exact zP)|(refine hK' _ _ ?_;clear hK' K')|fail);try refine zS ?_))|(refine zE ?_;refine hK _ _ ?_;clear hK K)|(refine zN ?_;try refine zS ?_)|refine zA ?_|(refine zB ?_;intro K hK)|(refine zC ?_ ?_<;>(try refine zH ?_)<;>intro hcond<;>try exact zX)|fail)
  all_goals
    simp [Rets, aret, Blk.cells, ty, Tryz.results103, ares, toT1, toT, borrow, borrow0, capCell, toTree0, tint, cmpI]
  all_goals omega
def ints (xs : List Int) : Tree := .slice (xs.map fun x => [.int .i64 x])
def orI : List Int → Int
  | [] => 0
  | x :: xs => if x ≠ 0 then x else orI xs
theorem Or_ok (xs : List Int) (hl : xs.length < 2 ^ 40) : ACall Tryz.prog 102 [.t (ints xs)] (tint (orI xs)) := by
  refine ACall.of_body Tryz.func102 rfl (by kernel_rfl) ?_
  simp only [entry, Tryz.ntmps102, ints]
  refine zU ?_
  repeat' (first|((first|(refine zT ?_;intro K' hK')|(refine zG ?_ ?_<;>(try refine zH ?_)<;>intro hguard<;>(try exact zX)<;>try intro K' hK'))<;>((try simp +contextual only [go_sem, List.length_map]);(repeat' first|(with_reducible refine hK' _ _ ?_;clear hK' K')|exact zY|with_reducible refine And.intro ?_ ?_|(with_reducible intro hpath;try exact zP)|(refine hK' _ _ ?_;clear hK' K')|fail);try refine zS ?_))|(refine zE ?_;refine hK _ _ ?_;clear hK K)|(refine zN ?_;try refine zS ?_)|refine zA ?_|(refine zB ?_;intro K hK)|(refine zC ?_ ?_<;>(try refine zH ?_)<;>intro hcond<;>try exact zX)|fail)
  refine AWp.loopx (α:=Nat) (fun k=>(⟨.c .any :: .c .any :: .c .any :: .c (.int .i64 0) :: .c .any :: .c .any :: .c (.slice (xs.map fun x => [.int .i64 x]) .none) :: .c (.int .i64 xs.length) :: .c (.int .i64 (k : Int)) :: .c .any :: .c .any :: .c .any :: .c .any :: .c .any :: .c .any :: .c .any :: .c .any :: .c .any :: [],[]⟩:St)) (fun k=>k ≤ xs.length ∧ orI xs = orI (xs.drop k)) (fun k=>xs.length - k) (0) (Weak.headL 0 18 [3, 6, 7, 8] zW) ?_ (fun k hI=>?_)
  · exact ⟨Nat.zero_le _, rfl⟩
  · obtain ⟨hk, hx⟩ := hI
    by_cases hlt : k < xs.length
    · have e1 : xs[k]? = some xs[k] := List.getElem?_eq_getElem hlt
      repeat' (first|((first|(refine zT ?_;intro K' hK')|(refine zG ?_ ?_<;>(try refine zH ?_)<;>intro hguard<;>(try exact zX)<;>try intro K' hK'))<;>((try simp +contextual only [go_sem, List.getElem?_map, Int.toNat_natCast, e1]);(repeat' first|(with_reducible refine hK' _ _ ?_;clear hK' K')|exact zY|with_reducible refine And.intro ?_ ?_|(with_reducible intro hpath;try exact zP)|(refine hK' _ _ ?_;clear hK' K')|fail);try refine zS ?_))|(refine zE ?_;refine hK _ _ ?_;clear hK K)|(refine zN ?_;try refine zS ?_)|refine zA ?_|(refine zB ?_;intro K hK)|(refine zC ?_ ?_<;>(try refine zH ?_)<;>intro hcond<;>try exact zX)|fail)
      · have hxk : orI xs = xs[k] := by rw [hx, List.drop_eq_getElem_cons hlt, orI]; simp_all
        simp [Rets, aret, Blk.cells, ty, Tryz.results102, ares, toT1, toT, borrow, borrow0, capCell, toTree0, tint, hxk]
      · refine ⟨k + 1,Weak.headN 0 18 [3, 6, 7, 8] zW,?_,?_⟩
        · exact ⟨hlt, by rw [hx, List.drop_eq_getElem_cons hlt, orI]; simp_all⟩
        · omega
    · have ek : k = xs.length := by omega
      have h0 : orI xs = 0 := by rw [hx, ek, List.drop_length, orI]
      repeat' (first|((first|(refine zT ?_;intro K' hK')|(refine zG ?_ ?_<;>(try refine zH ?_)<;>intro hguard<;>(try exact zX)<;>try intro K' hK'))<;>((try simp +contextual only [go_sem, Int.ofNat_lt]);(repeat' first|(with_reducible refine hK' _ _ ?_;clear hK' K')|exact zY|with_reducible refine And.intro ?_ ?_|(with_reducible intro hpath;try exact zP)|(refine hK' _ _ ?_;clear hK' K')|fail);try refine zS ?_))|(refine zE ?_;refine hK _ _ ?_;clear hK K)|(refine zN ?_;try refine zS ?_)|refine zA ?_|(refine zB ?_;intro K hK)|(refine zC ?_ ?_<;>(try refine zH ?_)<;>intro hcond<;>try exact zX)|fail)
      simp [Rets, aret, Blk.cells, ty, Tryz.results102, ares, toT1, toT, borrow, borrow0, capCell, toTree0, tint, h0]
theorem compare_ok (a b c d : Int) : ACall Tryz.prog 139 [tpair a b, tpair c d] (tint (orI [cmpI a c, cmpI b d])) := by
  refine ACall.of_body Tryz.func139 rfl (by kernel_rfl) ?_
  simp only [entry, Tryz.ntmps139, tpair]
  refine zU ?_
  repeat' (first|((first|(refine zT ?_;intro K' hK')|(refine zG ?_ ?_<;>(try refine zH ?_)<;>intro hguard<;>(try exact zX)<;>try intro K' hK'))<;>((try simp +contextual only [go_sem, ints, chunks, List.range, List.range.loop]);(repeat' first|(with_reducible refine hK' _ _ ?_;clear hK' K')|((with_reducible first|refine zK (Compare_ok _ _) ?_|refine zL (c:=Or_ok [_, _] (by simp)) (q:=?_));try simp +contextual only [go_sem, ints, chunks, List.range, List.range.loop])|exact zY|with_reducible refine And.intro ?_ ?_|(with_reducible intro hpath;try exact zP)|(refine hK' _ _ ?_;clear hK' K')|fail);try refine zS ?_))|(refine zE ?_;refine hK _ _ ?_;clear hK K)|(refine zN ?_;try refine zS ?_)|refine zA ?_|(refine zB ?_;intro K hK)|(refine zC ?_ ?_<;>(try refine zH ?_)<;>intro hcond<;>try exact zX)|fail)
  simp [Rets, aret, Blk.cells, ty, Tryz.results139, ares, toT1, toT, borrow, borrow0, capCell, toTree0, tint]
theorem joined_ok (a b : Int) : ACall Tryz.prog 98 [tint a, tint b] (tpair (min a b) (max a b)) := by
  refine ACall.of_body Tryz.func98 rfl (by kernel_rfl) ?_
  simp only [entry, Tryz.ntmps98, tint]
  refine zU ?_
  repeat' (first|((first|(refine zT ?_;intro K' hK')|(refine zG ?_ ?_<;>(try refine zH ?_)<;>intro hguard<;>(try exact zX)<;>try intro K' hK'))<;>((try simp +contextual only [go_sem]);(repeat' first|(with_reducible refine hK' _ _ ?_;clear hK' K')|exact zY|with_reducible refine And.intro ?_ ?_|(with_reducible intro hpath;try exact zP)|(refine hK' _ _ ?_;clear hK' K')|fail);try refine zS ?_))|(refine zE ?_;refine hK _ _ ?_;clear hK K)|(refine zN ?_;try refine zS ?_)|refine zA ?_|(refine zB ?_;intro K hK)|(refine zC ?_ ?_<;>(try refine zH ?_)<;>intro hcond<;>try exact zX)|fail)
  all_goals
    simp [Rets, aret, Blk.cells, ty, Tryz.results98, ares, toT1, toT, borrow, borrow0, capCell, toTree0, tpair]
end Go.Proofs.YtfkegnhpihoncaaGreat
set_option linter.all false
namespace Go.Proofs.YtfkegnhpihoncaaGreat
open Go.Sp
set_option linter.unusedSimpArgs false
set_option linter.unusedVariables false
set_option maxHeartbeats 4000000
set_option maxRecDepth 100000
structure E where
  (a b m : Int)
structure G where
  (n : Int) (es : List E)
def eRow (e : E) : List Tree := [.int .i64 e.a, .int .i64 e.b, .int .i64 e.m]
def eRows (es : List E) : List (List Tree) := es.map eRow
def tG (g : G) : TVal := .agg [.int .i64 g.n, .slice (eRows g.es)]
attribute [go_sem] tG
def pRow (p : Int × Int) : List Tree := [.int .i64 p.1, .int .i64 p.2]
def pRows (l : List (Int × Int)) : List (List Tree) := l.map pRow
def endsL (es : List E) : List (Int × Int) := es.flatMap fun e => List.replicate e.m.toNat (e.a, e.b)
theorem eRows_len (es : List E) : (eRows es).length = es.length := by simp [eRows]
theorem pRows_len (es : List (Int × Int)) : (pRows es).length = es.length := by simp [pRows]
theorem pRows_get {l : List (Int × Int)} {i : Nat} {p : Int × Int} (h : l[i]? = some p) : (pRows l)[i]? = some [.int .i64 p.1, .int .i64 p.2] := by simp [pRows, pRow, h]
theorem pRows_snoc (l : List (Int × Int)) (a b : Int) : pRows l ++ [[.int .i64 a, .int .i64 b]] = pRows (l ++ [(a, b)]) := by simp [pRows, pRow]
theorem pRows_k' {l : List (Int × Int)} {r : List Tree} (h : r ∈ pRows l) : r.length = 2 := by
  obtain ⟨x, _, rfl⟩ := List.mem_map.1 h
  rfl
theorem endsL_append (a b : List E) : endsL (a ++ b) = endsL a ++ endsL b := by unfold endsL; exact List.flatMap_append
theorem endsL_one (e : E) : endsL [e] = List.replicate e.m.toNat (e.a, e.b) := by simp [endsL]
theorem endsL_take {es : List E} {i : Nat} (h : i < es.length) : endsL (es.take (i + 1)) = endsL (es.take i) ++ List.replicate es[i].m.toNat (es[i].a, es[i].b) := by
  rw [List.take_succ_eq_append_getElem h, endsL_append, endsL_one]
theorem endsL_take_le (es : List E) (i : Nat) : (endsL (es.take i)).length ≤ (endsL es).length := by
  have : endsL es = endsL (es.take i) ++ endsL (es.drop i) := by rw [← endsL_append, List.take_append_drop]
  rw [this, List.length_append]; omega
theorem eRows_get {es : List E} {i : Nat} {e : E} (h : es[i]? = some e) : (eRows es)[i]? = some [.int .i64 e.a, .int .i64 e.b, .int .i64 e.m] := by
  simp [eRows, h, eRow]
theorem EndsR_ok (g : G) (hs : (endsL g.es).length < 2 ^ 40) (hl : g.es.length < 2 ^ 40) (hm : ∀ e, e ∈ g.es → e.m < 2 ^ 40) : ACall Tryz.prog 55 [tG g] (.t (.slice (pRows (endsL g.es)))) := by
  refine ACall.of_body Tryz.func55 rfl (by kernel_rfl) ?_
  simp only [entry, Tryz.ntmps55, tG]
  refine zU ?_
  repeat' (first|((first|(refine zT ?_;intro K' hK')|(refine zG ?_ ?_<;>(try refine zH ?_)<;>intro hguard<;>(try exact zX)<;>try intro K' hK'))<;>((try simp +contextual only [go_sem]);(repeat' first|(with_reducible refine hK' _ _ ?_;clear hK' K')|exact zY|with_reducible refine And.intro ?_ ?_|(with_reducible intro hpath;try exact zP)|(refine hK' _ _ ?_;clear hK' K')|fail);try refine zS ?_))|(refine zE ?_;refine hK _ _ ?_;clear hK K)|(refine zN ?_;try refine zS ?_)|refine zA ?_|(refine zB ?_;intro K hK)|(refine zC ?_ ?_<;>(try refine zH ?_)<;>intro hcond<;>try exact zX)|fail)
  refine AWp.weak (Weak.opens ((fun t f => [f, f, f, t, f, f, f, f, f, f, f, f, f, f, f, f, f, f, f, f, f, f, f, f, f, f, f, f, f, f, f, f, f, f, f, f, f, f, f, f]) true false) 2 (by first | omega | simp)) ?_
  simp only [openS, openV, List.length_cons, List.length_nil, List.length_append, Nat.reduceAdd, List.cons_append, List.nil_append]
  refine AWp.loopx (α:=Nat) (fun i=>(⟨.c .any :: .c (.ptr 0 0) :: .c .any :: .c (.slice (pRows (endsL (g.es.take i))) (.chain 1)) :: .c (.int .i64 (i : Int)) :: .c .any :: .c .any :: .c .any :: .c .any :: .c .any :: .c .any :: .c .any :: .c .any :: .c .any :: .c .any :: .c .any :: .c .any :: .c .any :: .c .any :: .c .any :: .c .any :: .c .any :: .c .any :: .c .any :: .c .any :: .c .any :: .c .any :: .c .any :: .c .any :: .c .any :: .c .any :: .c .any :: .c .any :: .c .any :: .c .any :: .c .any :: .c .any :: .c .any :: .c .any :: .c .any :: [],[.box [.int .i64 g.n, .slice (eRows g.es) .none], .chain (endsL (g.es.take i)).length 2]⟩:St)) (fun i=>i ≤ g.es.length) (fun i=>g.es.length - i) (0) (Weak.headL 2 40 [1, 3, 4] zW) ?_ (fun i hI=>?_)
  · exact Nat.zero_le _
  · by_cases hlt : i < g.es.length
    · have e1 : g.es[i]? = some g.es[i] := List.getElem?_eq_getElem hlt
      have e2 := eRows_get e1
      have hle := endsL_take_le g.es (i + 1)
      rw [endsL_take hlt, List.length_append, List.length_replicate] at hle
      have hmi := hm g.es[i] (List.getElem_mem hlt)
      repeat' (first|((first|(refine zT ?_;intro K' hK')|(refine zG ?_ ?_<;>(try refine zH ?_)<;>intro hguard<;>(try exact zX)<;>try intro K' hK'))<;>((try simp +contextual only [go_sem, eRows_len, Int.ofNat_lt]);(repeat' first|(with_reducible refine hK' _ _ ?_;clear hK' K')|exact zY|with_reducible refine And.intro ?_ ?_|(with_reducible intro hpath;try exact zP)|(refine hK' _ _ ?_;clear hK' K')|fail);try refine zS ?_))|(refine zE ?_;refine hK _ _ ?_;clear hK K)|(refine zN ?_;try refine zS ?_)|refine zA ?_|(refine zB ?_;intro K hK)|(refine zC ?_ ?_<;>(try refine zH ?_)<;>intro hcond<;>try exact zX)|fail)
      ·
        refine AWp.loopx (α:=Nat) (fun k=>(⟨.c .any :: .c (.ptr 0 0) :: .c .any :: .c (.slice (pRows (endsL (g.es.take i) ++ List.replicate k (g.es[i].a, g.es[i].b))) (.chain 1)) :: .c (.int .i64 (i : Int)) :: .c (.int .i64 (k : Int)) :: .c .any :: .c .any :: .c .any :: .c .any :: .c .any :: .c .any :: .c .any :: .c .any :: .c .any :: .c .any :: .c .any :: .c .any :: .c .any :: .c .any :: .c .any :: .c .any :: .c .any :: .c .any :: .c .any :: .c .any :: .c .any :: .c .any :: .c .any :: .c .any :: .c .any :: .c .any :: .c .any :: .c .any :: .c .any :: .c .any :: .c .any :: .c .any :: .c .any :: .c .any :: [],[.box [.int .i64 g.n, .slice (eRows g.es) .none], .chain ((endsL (g.es.take i)).length + k) 2]⟩:St)) (fun k=>k ≤ g.es[i].m.toNat) (fun k=>g.es[i].m.toNat - k) (0) (Weak.headL 2 40 [1, 3, 4, 5] zW) ?_ (fun k hI=>?_)
        · exact Nat.zero_le _
        · by_cases hk : (k : Int) < g.es[i].m
          ·
            have hk2 : k < g.es[i].m.toNat := by omega
            repeat' (first|((first|(refine zT ?_;intro K' hK')|(refine zG ?_ ?_<;>(try refine zH ?_)<;>intro hguard<;>(try exact zX)<;>try intro K' hK'))<;>((try simp +contextual only [go_sem, e2, Int.toNat_natCast, List.length_append, List.length_replicate, pRows_len, chunks, List.range, List.range.loop, pRows_snoc, List.append_assoc, ← List.replicate_succ']);(repeat' first|(with_reducible refine hK' _ _ ?_;clear hK' K')|(with_reducible exact pRows_k' (by assumption))|exact zY|with_reducible refine And.intro ?_ ?_|(with_reducible intro hpath;try exact zP)|(refine hK' _ _ ?_;clear hK' K')|fail);try refine zS ?_))|(refine zE ?_;refine hK _ _ ?_;clear hK K)|(refine zN ?_;try refine zS ?_)|refine zA ?_|(refine zB ?_;intro K hK)|(refine zC ?_ ?_<;>(try refine zH ?_)<;>intro hcond<;>try exact zX)|fail)
            refine ⟨k + 1,Weak.headN 2 40 [1, 3, 4, 5] zW (e1:=by first|rfl|(simp [mask,keepL, Nat.add_assoc, List.replicate_succ];done)|(simp [mask,keepL, Nat.add_assoc, List.replicate_succ]<;>simp_all<;>omega)) (e2:=by first|rfl|(simp [mask,keepL, Nat.add_assoc, List.replicate_succ];done)|(simp [mask,keepL, Nat.add_assoc, List.replicate_succ]<;>simp_all<;>omega)),?_,?_⟩
            · exact hk2
            · omega
          ·
            have ek : k = g.es[i].m.toNat := by omega
            repeat' (first|((first|(refine zT ?_;intro K' hK')|(refine zG ?_ ?_<;>(try refine zH ?_)<;>intro hguard<;>(try exact zX)<;>try intro K' hK'))<;>((try simp +contextual only [go_sem, e2, Int.toNat_natCast]);(repeat' first|(with_reducible refine hK' _ _ ?_;clear hK' K')|exact zY|with_reducible refine And.intro ?_ ?_|(with_reducible intro hpath;try exact zP)|(refine hK' _ _ ?_;clear hK' K')|fail);try refine zS ?_))|(refine zE ?_;refine hK _ _ ?_;clear hK K)|(refine zN ?_;try refine zS ?_)|refine zA ?_|(refine zB ?_;intro K hK)|(refine zC ?_ ?_<;>(try refine zH ?_)<;>intro hcond<;>try exact zX)|fail)
            refine ⟨i + 1,Weak.headN 2 40 [1, 3, 4] zW (e1:=by first|rfl|(simp [mask,keepL, endsL_take hlt, ek];done)|(simp [mask,keepL, endsL_take hlt, ek]<;>simp_all<;>omega)) (e2:=by first|rfl|(simp [mask,keepL, endsL_take hlt, ek];done)|(simp [mask,keepL, endsL_take hlt, ek]<;>simp_all<;>omega)),?_,?_⟩
            · exact hlt
            · omega
    · have ei : i = g.es.length := by omega
      repeat' (first|((first|(refine zT ?_;intro K' hK')|(refine zG ?_ ?_<;>(try refine zH ?_)<;>intro hguard<;>(try exact zX)<;>try intro K' hK'))<;>((try simp +contextual only [go_sem, eRows_len, Int.ofNat_lt]);(repeat' first|(with_reducible refine hK' _ _ ?_;clear hK' K')|exact zY|with_reducible refine And.intro ?_ ?_|(with_reducible intro hpath;try exact zP)|(refine hK' _ _ ?_;clear hK' K')|fail);try refine zS ?_))|(refine zE ?_;refine hK _ _ ?_;clear hK K)|(refine zN ?_;try refine zS ?_)|refine zA ?_|(refine zB ?_;intro K hK)|(refine zC ?_ ?_<;>(try refine zH ?_)<;>intro hcond<;>try exact zX)|fail)
      simp [Rets, aret, Blk.cells, ty, Tryz.results55, ares, toT1, toT, borrow, borrow0, capCell, toTree0, ei]
end Go.Proofs.YtfkegnhpihoncaaGreat
set_option linter.all false
namespace Go.Proofs.YtfkegnhpihoncaaGreat
open Go.Sp
set_option linter.unusedSimpArgs false
set_option linter.unusedVariables false
set_option maxHeartbeats 4000000
set_option maxRecDepth 100000
theorem Vertex_ok (g : G) (v : Int) : ACall Tryz.prog 162 [tG g, tint v] (tbool (decide (0 ≤ v ∧ v < g.n))) := by
  refine ACall.of_body Tryz.func162 rfl (by kernel_rfl) ?_
  simp only [entry, Tryz.ntmps162, tG, tint]
  refine zU ?_
  repeat' (first|((first|(refine zT ?_;intro K' hK')|(refine zG ?_ ?_<;>(try refine zH ?_)<;>intro hguard<;>(try exact zX)<;>try intro K' hK'))<;>((try simp +contextual only [go_sem]);(repeat' first|(with_reducible refine hK' _ _ ?_;clear hK' K')|exact zY|with_reducible refine And.intro ?_ ?_|(with_reducible intro hpath;try exact zP)|(refine hK' _ _ ?_;clear hK' K')|fail);try refine zS ?_))|(refine zE ?_;refine hK _ _ ?_;clear hK K)|(refine zN ?_;try refine zS ?_)|refine zA ?_|(refine zB ?_;intro K hK)|(refine zC ?_ ?_<;>(try refine zH ?_)<;>intro hcond<;>try exact zX)|fail)
  all_goals
    simp [Rets, aret, Blk.cells, ty, Tryz.results162, ares, toT1, toT, borrow, borrow0, capCell, toTree0, tbool]
  all_goals omega
def edgeE (n : Int) (es : List E) (i : Nat) : Int :=
  match es[i]? with
  | none => 0
  | some x =>
    if ¬ (0 ≤ x.a ∧ x.a < n) ∨ ¬ (0 ≤ x.b ∧ x.b < n) ∨ x.m < 1 ∨ 50 < x.m then 2
    else if x.b < x.a then 9
    else match i with
      | 0 => 0
      | j + 1 => match es[j]? with
        | none => 0
        | some y => if x.a < y.a ∨ (x.a = y.a ∧ x.b ≤ y.b) then 9 else 0
theorem edge_ok (g : G) (i : Nat) (hi : i < g.es.length) (hl : g.es.length < 2 ^ 40) : ACall Tryz.prog 134 [tG g, tint i] (tint (edgeE g.n g.es i)) := by
  have e1 : g.es[i]? = some g.es[i] := List.getElem?_eq_getElem hi
  have e2 := eRows_get e1
  cases i with
  | zero =>
    refine ACall.of_body Tryz.func134 rfl (by kernel_rfl) ?_
    simp only [entry, Tryz.ntmps134, tG, tint]
    refine zU ?_
    repeat' (first|((first|(refine zT ?_;intro K' hK')|(refine zG ?_ ?_<;>(try refine zH ?_)<;>intro hguard<;>(try exact zX)<;>try intro K' hK'))<;>((try simp +contextual only [go_sem, e2, Int.toNat_natCast, Int.toNat_zero, Int.natCast_zero]);(repeat' first|(with_reducible refine hK' _ _ ?_;clear hK' K')|(with_reducible refine zK (Vertex_ok g _) ?_;try simp +contextual only [go_sem, e2, Int.toNat_natCast, Int.toNat_zero, Int.natCast_zero])|exact zY|with_reducible refine And.intro ?_ ?_|(with_reducible intro hpath;try exact zP)|(refine hK' _ _ ?_;clear hK' K')|fail);try refine zS ?_))|(refine zE ?_;refine hK _ _ ?_;clear hK K)|(refine zN ?_;try refine zS ?_)|refine zA ?_|(refine zB ?_;intro K hK)|(refine zC ?_ ?_<;>(try refine zH ?_)<;>intro hcond<;>try exact zX)|fail)
    all_goals
      simp [Rets, aret, Blk.cells, ty, Tryz.results134, ares, toT1, toT, borrow, borrow0, capCell, toTree0, tint, edgeE, e1]
    all_goals omega
  | succ j =>
    have hj : j < g.es.length := by omega
    have f1 : g.es[j]? = some g.es[j] := List.getElem?_eq_getElem hj
    have f2 := eRows_get f1
    have e4 : ((j + 1 : Nat) : Int) - 1 = j := by omega
    have e5 : ((j + 1 : Nat) : Int).toNat = j + 1 := by omega
    have e6 : ((j : Nat) : Int).toNat = j := by omega
    refine ACall.of_body Tryz.func134 rfl (by kernel_rfl) ?_
    simp only [entry, Tryz.ntmps134, tG, tint]
    refine zU ?_
    repeat' (first|((first|(refine zT ?_;intro K' hK')|(refine zG ?_ ?_<;>(try refine zH ?_)<;>intro hguard<;>(try exact zX)<;>try intro K' hK'))<;>((try simp +contextual only [go_sem, e2, e4, e5, e6, f2]);(repeat' first|(with_reducible refine hK' _ _ ?_;clear hK' K')|(with_reducible refine zK (Vertex_ok g _) ?_;try simp +contextual only [go_sem, e2, e4, e5, e6, f2])|exact zY|with_reducible refine And.intro ?_ ?_|(with_reducible intro hpath;try exact zP)|(refine hK' _ _ ?_;clear hK' K')|fail);try refine zS ?_))|(refine zE ?_;refine hK _ _ ?_;clear hK K)|(refine zN ?_;try refine zS ?_)|refine zA ?_|(refine zB ?_;intro K hK)|(refine zC ?_ ?_<;>(try refine zH ?_)<;>intro hcond<;>try exact zX)|fail)
    all_goals
      simp [Rets, aret, Blk.cells, ty, Tryz.results134, ares, toT1, toT, borrow, borrow0, capCell, toTree0, tint, edgeE, e1, f1]
    all_goals omega
def checkE (n : Int) (es : List E) : Nat → Int
  | 0 => 0
  | k + 1 => if edgeE n es (es.length - (k + 1)) ≠ 0 then edgeE n es (es.length - (k + 1)) else checkE n es k
def checkG (g : G) : Int := if g.n < 1 ∨ 12 < g.n then 2 else checkE g.n g.es g.es.length
theorem CheckR_ok (g : G) (hl : g.es.length < 2 ^ 40) : ACall Tryz.prog 92 [tG g] (tint (checkG g)) := by
  refine ACall.of_body Tryz.func92 rfl (by kernel_rfl) ?_
  simp only [entry, Tryz.ntmps92, tG]
  refine zU ?_
  repeat' (first|((first|(refine zT ?_;intro K' hK')|(refine zG ?_ ?_<;>(try refine zH ?_)<;>intro hguard<;>(try exact zX)<;>try intro K' hK'))<;>((try simp +contextual only [go_sem]);(repeat' first|(with_reducible refine hK' _ _ ?_;clear hK' K')|exact zY|with_reducible refine And.intro ?_ ?_|(with_reducible intro hpath;try exact zP)|(refine hK' _ _ ?_;clear hK' K')|fail);try refine zS ?_))|(refine zE ?_;refine hK _ _ ?_;clear hK K)|(refine zN ?_;try refine zS ?_)|refine zA ?_|(refine zB ?_;intro K hK)|(refine zC ?_ ?_<;>(try refine zH ?_)<;>intro hcond<;>try exact zX)|fail)
  ·
    simp [Rets, aret, Blk.cells, ty, Tryz.results92, ares, toT1, toT, borrow, borrow0, capCell, toTree0, tint, checkG]
    all_goals omega
  ·
    refine AWp.loopx (α:=Nat) (fun i=>(⟨.c .any :: .c (.ptr 0 0) :: .c .any :: .c (.int .i64 (i : Int)) :: .c .any :: .c .any :: .c .any :: .c .any :: .c .any :: .c .any :: .c .any :: .c .any :: .c .any :: .c .any :: .c .any :: .c .any :: .c .any :: .c .any :: .c .any :: .c .any :: .c .any :: .c .any :: .c .any :: .c .any :: .c .any :: .c .any :: [],[.box [.int .i64 g.n, .slice (eRows g.es) .none]]⟩:St)) (fun i=>i ≤ g.es.length ∧ checkG g = checkE g.n g.es (g.es.length - i)) (fun i=>g.es.length - i) (0) (Weak.headL 1 26 [1, 3] zW) ?_ (fun i hI=>?_)
    · exact ⟨Nat.zero_le _, by simp only [checkG, Nat.sub_zero]; rw [if_neg (by omega)]⟩
    · obtain ⟨hi, hx⟩ := hI
      by_cases hlt : i < g.es.length
      · have es : g.es.length - i = (g.es.length - (i + 1)) + 1 := by omega
        have ei : g.es.length - (g.es.length - (i + 1) + 1) = i := by omega
        rw [es, checkE, ei] at hx
        repeat' (first|((first|(refine zT ?_;intro K' hK')|(refine zG ?_ ?_<;>(try refine zH ?_)<;>intro hguard<;>(try exact zX)<;>try intro K' hK'))<;>((try simp +contextual only [go_sem, eRows_len, Int.ofNat_lt]);(repeat' first|(with_reducible refine hK' _ _ ?_;clear hK' K')|(with_reducible refine zK (edge_ok g i hlt hl) ?_;try simp +contextual only [go_sem, eRows_len, Int.ofNat_lt])|exact zY|with_reducible refine And.intro ?_ ?_|(with_reducible intro hpath;try exact zP)|(refine hK' _ _ ?_;clear hK' K')|fail);try refine zS ?_))|(refine zE ?_;refine hK _ _ ?_;clear hK K)|(refine zN ?_;try refine zS ?_)|refine zA ?_|(refine zB ?_;intro K hK)|(refine zC ?_ ?_<;>(try refine zH ?_)<;>intro hcond<;>try exact zX)|fail)
        · have hx2 : checkG g = edgeE g.n g.es i := by rw [hx, if_pos (by assumption)]
          simp [Rets, aret, Blk.cells, ty, Tryz.results92, ares, toT1, toT, borrow, borrow0, capCell, toTree0, tint, hx2]
        · refine ⟨i + 1,Weak.headN 1 26 [1, 3] zW,?_,?_⟩
          · exact ⟨hlt, by rw [hx, if_neg (by omega)]⟩
          · omega
      · have ei : i = g.es.length := by omega
        have h0 : checkG g = 0 := by rw [hx, ei, Nat.sub_self, checkE]
        repeat' (first|((first|(refine zT ?_;intro K' hK')|(refine zG ?_ ?_<;>(try refine zH ?_)<;>intro hguard<;>(try exact zX)<;>try intro K' hK'))<;>((try simp +contextual only [go_sem, eRows_len, Int.ofNat_lt]);(repeat' first|(with_reducible refine hK' _ _ ?_;clear hK' K')|exact zY|with_reducible refine And.intro ?_ ?_|(with_reducible intro hpath;try exact zP)|(refine hK' _ _ ?_;clear hK' K')|fail);try refine zS ?_))|(refine zE ?_;refine hK _ _ ?_;clear hK K)|(refine zN ?_;try refine zS ?_)|refine zA ?_|(refine zB ?_;intro K hK)|(refine zC ?_ ?_<;>(try refine zH ?_)<;>intro hcond<;>try exact zX)|fail)
        simp [Rets, aret, Blk.cells, ty, Tryz.results92, ares, toT1, toT, borrow, borrow0, capCell, toTree0, tint, h0]
  ·
    simp [Rets, aret, Blk.cells, ty, Tryz.results92, ares, toT1, toT, borrow, borrow0, capCell, toTree0, tint, checkG]
    all_goals omega
end Go.Proofs.YtfkegnhpihoncaaGreat
set_option linter.all false
namespace Go.Proofs.YtfkegnhpihoncaaGreat
open Go.Sp
set_option linter.unusedSimpArgs false
set_option linter.unusedVariables false
set_option maxHeartbeats 4000000
set_option maxRecDepth 100000
theorem SizeR_ok (g : G) (hs : (endsL g.es).length < 2 ^ 40) (hl : g.es.length < 2 ^ 40) (hm : ∀ e, e ∈ g.es → e.m < 2 ^ 40) : ACall Tryz.prog 20 [tG g] (tint (endsL g.es).length) := by
  refine ACall.of_body Tryz.func20 rfl (by kernel_rfl) ?_
  simp only [entry, Tryz.ntmps20, tG]
  refine zU ?_
  repeat' (first|((first|(refine zT ?_;intro K' hK')|(refine zG ?_ ?_<;>(try refine zH ?_)<;>intro hguard<;>(try exact zX)<;>try intro K' hK'))<;>((try simp +contextual only [go_sem, pRows_len]);(repeat' first|(with_reducible refine hK' _ _ ?_;clear hK' K')|(with_reducible refine zK (EndsR_ok g hs hl hm) ?_;try simp +contextual only [go_sem, pRows_len])|exact zY|with_reducible refine And.intro ?_ ?_|(with_reducible intro hpath;try exact zP)|(refine hK' _ _ ?_;clear hK' K')|fail);try refine zS ?_))|(refine zE ?_;refine hK _ _ ?_;clear hK K)|(refine zN ?_;try refine zS ?_)|refine zA ?_|(refine zB ?_;intro K hK)|(refine zC ?_ ?_<;>(try refine zH ?_)<;>intro hcond<;>try exact zX)|fail)
  all_goals
    simp [Rets, aret, Blk.cells, ty, Tryz.results20, ares, toT1, toT, borrow, borrow0, capCell, toTree0, tint]
def lastE (es : List E) : Nat → Int × Int
  | 0 => (-1, -1)
  | j + 1 => match es[j]? with
    | some y => (y.a, y.b)
    | none => (-1, -1)
def badE (n : Int) (x : E) : Prop := ¬ (0 ≤ x.a ∧ x.a < n) ∨ ¬ (0 ≤ x.b ∧ x.b < n) ∨ x.m < 1 ∨ 50 < x.m
theorem edgeE_bad {n : Int} {es : List E} {i : Nat} (hi : i < es.length) (h : badE n es[i]) : edgeE n es i = 2 := by
  unfold edgeE; rw [List.getElem?_eq_getElem hi]; exact if_pos h
theorem edgeE_nine {n : Int} {es : List E} {i : Nat} (hi : i < es.length) (h : ¬ badE n es[i]) (h2 : es[i].b < es[i].a ∨ 0 ≤ orI [cmpI (lastE es i).1 es[i].a, cmpI (lastE es i).2 es[i].b]) : edgeE n es i = 9 := by
  unfold edgeE; rw [List.getElem?_eq_getElem hi]
  simp only
  unfold badE at h
  rw [if_neg h]
  by_cases hb : es[i].b < es[i].a
  · rw [if_pos hb]
  · rw [if_neg hb]
    rcases h2 with h2 | h2
    · exact absurd h2 hb
    · cases i with
      | zero => exfalso; simp only [lastE, orI, cmpI] at h2; (repeat' split at h2) <;> omega
      | succ j =>
        have hj : j < es.length := by omega
        simp only [lastE, List.getElem?_eq_getElem hj, orI, cmpI] at h2 ⊢
        rw [if_pos]
        (repeat' split at h2) <;> omega
theorem edgeE_zero {n : Int} {es : List E} {i : Nat} (hi : i < es.length) (h : ¬ badE n es[i]) (h1 : ¬ es[i].b < es[i].a) (h2 : ¬ 0 ≤ orI [cmpI (lastE es i).1 es[i].a, cmpI (lastE es i).2 es[i].b]) : edgeE n es i = 0 := by
  unfold edgeE; rw [List.getElem?_eq_getElem hi]
  simp only
  unfold badE at h
  rw [if_neg h, if_neg h1]
  cases i with
  | zero => rfl
  | succ j =>
    have hj : j < es.length := by omega
    simp only [lastE, List.getElem?_eq_getElem hj, orI, cmpI] at h2 ⊢
    rw [if_neg]
    (repeat' split at h2) <;> omega
theorem Check_ok (g : G) (hl : g.es.length < 2 ^ 40) : ACall Tryz.prog 143 [tG g] (tint (checkG g)) := by
  refine ACall.of_body Tryz.func143 rfl (by kernel_rfl) ?_
  simp only [entry, Tryz.ntmps143, tG]
  refine zU ?_
  repeat' (first|((first|(refine zT ?_;intro K' hK')|(refine zG ?_ ?_<;>(try refine zH ?_)<;>intro hguard<;>(try exact zX)<;>try intro K' hK'))<;>((try simp +contextual only [go_sem, eRows_len]);(repeat' first|(with_reducible refine hK' _ _ ?_;clear hK' K')|exact zY|with_reducible refine And.intro ?_ ?_|(with_reducible intro hpath;try exact zP)|(refine hK' _ _ ?_;clear hK' K')|fail);try refine zS ?_))|(refine zE ?_;refine hK _ _ ?_;clear hK K)|(refine zN ?_;try refine zS ?_)|refine zA ?_|(refine zB ?_;intro K hK)|(refine zC ?_ ?_<;>(try refine zH ?_)<;>intro hcond<;>try exact zX)|fail)
  ·
    simp [Rets, aret, Blk.cells, ty, Tryz.results143, ares, toT1, toT, borrow, borrow0, capCell, toTree0, tint, checkG]
    all_goals omega
  ·
    refine AWp.loopx (α:=Nat) (fun i=>(⟨.c .any :: .c (.ptr 0 0) :: .c .any :: .c (.ptr 1 0) :: .c .any :: .c .any :: .c .any :: .c .any :: .c .any :: .c .any :: .c .any :: .c .any :: .c .any :: .c .any :: .c .any :: .c .any :: .c .any :: .c (.slice (eRows g.es) .none) :: .c (.int .i64 g.es.length) :: .c (.int .i64 (i : Int)) :: .c .any :: .c .any :: .c .any :: .c .any :: .c .any :: .c .any :: .c .any :: .c .any :: .c .any :: .c .any :: .c .any :: .c .any :: .c .any :: .c .any :: .c .any :: .c .any :: .c .any :: .c .any :: .c .any :: .c .any :: .c .any :: .c .any :: .c .any :: .c .any :: .c .any :: .c .any :: .c .any :: .c .any :: .c .any :: .c .any :: .c .any :: .c .any :: .c .any :: .c .any :: .c .any :: .c .any :: .c .any :: .c .any :: .c .any :: .c .any :: .c .any :: .c .any :: .c .any :: .c .any :: .c .any :: .c .any :: .c .any :: [],[.box [.int .i64 g.n, .slice (eRows g.es) .none], .box [.int .i64 (lastE g.es i).1, .int .i64 (lastE g.es i).2]]⟩:St)) (fun i=>i ≤ g.es.length ∧ checkG g = checkE g.n g.es (g.es.length - i)) (fun i=>g.es.length - i) (0) (Weak.headL 2 67 [1, 3, 17, 18, 19] zW) ?_ (fun i hI=>?_)
    · exact ⟨Nat.zero_le _, by simp only [checkG, Nat.sub_zero]; rw [if_neg (by omega)]⟩
    · obtain ⟨hi, hx⟩ := hI
      by_cases hlt : i < g.es.length
      · have es : g.es.length - i = (g.es.length - (i + 1)) + 1 := by omega
        have ei : g.es.length - (g.es.length - (i + 1) + 1) = i := by omega
        rw [es, checkE, ei] at hx
        have e1 : g.es[i]? = some g.es[i] := List.getElem?_eq_getElem hlt
        have e2 := eRows_get e1
        repeat' (first|((first|(refine zT ?_;intro K' hK')|(refine zG ?_ ?_<;>(try refine zH ?_)<;>intro hguard<;>(try exact zX)<;>try intro K' hK'))<;>((try simp +contextual only [go_sem, e2, Int.toNat_natCast]);(repeat' first|(with_reducible refine hK' _ _ ?_;clear hK' K')|((with_reducible first|refine zK (vertex_ok _ _) ?_|refine zK (compare_ok _ _ _ _) ?_);try simp +contextual only [go_sem, e2, Int.toNat_natCast])|exact zY|with_reducible refine And.intro ?_ ?_|(with_reducible intro hpath;try exact zP)|(refine hK' _ _ ?_;clear hK' K')|fail);try refine zS ?_))|(refine zE ?_;refine hK _ _ ?_;clear hK K)|(refine zN ?_;try refine zS ?_)|refine zA ?_|(refine zB ?_;intro K hK)|(refine zC ?_ ?_<;>(try refine zH ?_)<;>intro hcond<;>try exact zX)|fail)
        · have h2 : checkG g = 2 := by rw [hx, edgeE_bad hlt (by unfold badE; omega), if_pos (by decide)]
          simp [Rets, aret, Blk.cells, ty, Tryz.results143, ares, toT1, toT, borrow, borrow0, capCell, toTree0, tint, h2]
        · have h9 : checkG g = 9 := by rw [hx, edgeE_nine hlt (by unfold badE; omega) (by first | exact .inl (by assumption) | exact .inr (by assumption)), if_pos (by decide)]
          simp [Rets, aret, Blk.cells, ty, Tryz.results143, ares, toT1, toT, borrow, borrow0, capCell, toTree0, tint, h9]
        · have h0 : edgeE g.n g.es i = 0 := edgeE_zero hlt (by unfold badE; omega) (by omega) (by omega)
          refine ⟨i + 1,Weak.headN 2 67 [1, 3, 17, 18, 19] zW (e1:=by first|rfl|(simp [mask,keepL, lastE, e1];done)|(simp [mask,keepL, lastE, e1]<;>simp_all<;>omega)) (e2:=by first|rfl|(simp [mask,keepL, lastE, e1];done)|(simp [mask,keepL, lastE, e1]<;>simp_all<;>omega)),?_,?_⟩
          · exact ⟨hlt, by rw [hx, if_neg (by omega)]⟩
          · omega
        · have h9 : checkG g = 9 := by rw [hx, edgeE_nine hlt (by unfold badE; omega) (by first | exact .inl (by assumption) | exact .inr (by assumption)), if_pos (by decide)]
          simp [Rets, aret, Blk.cells, ty, Tryz.results143, ares, toT1, toT, borrow, borrow0, capCell, toTree0, tint, h9]
        · have h2 : checkG g = 2 := by rw [hx, edgeE_bad hlt (by unfold badE; omega), if_pos (by decide)]
          simp [Rets, aret, Blk.cells, ty, Tryz.results143, ares, toT1, toT, borrow, borrow0, capCell, toTree0, tint, h2]
        · have h2 : checkG g = 2 := by rw [hx, edgeE_bad hlt (by unfold badE; omega), if_pos (by decide)]
          simp [Rets, aret, Blk.cells, ty, Tryz.results143, ares, toT1, toT, borrow, borrow0, capCell, toTree0, tint, h2]
        · have h2 : checkG g = 2 := by rw [hx, edgeE_bad hlt (by unfold badE; omega), if_pos (by decide)]
          simp [Rets, aret, Blk.cells, ty, Tryz.results143, ares, toT1, toT, borrow, borrow0, capCell, toTree0, tint, h2]
      · have ei : i = g.es.length := by omega
        have h0 : checkG g = 0 := by rw [hx, ei, Nat.sub_self, checkE]
        repeat' (first|((first|(refine zT ?_;intro K' hK')|(refine zG ?_ ?_<;>(try refine zH ?_)<;>intro hguard<;>(try exact zX)<;>try intro K' hK'))<;>((try simp +contextual only [go_sem, eRows_len, Int.ofNat_lt]);(repeat' first|(with_reducible refine hK' _ _ ?_;clear hK' K')|exact zY|with_reducible refine And.intro ?_ ?_|(with_reducible intro hpath;try exact zP)|(refine hK' _ _ ?_;clear hK' K')|fail);try refine zS ?_))|(refine zE ?_;refine hK _ _ ?_;clear hK K)|(refine zN ?_;try refine zS ?_)|refine zA ?_|(refine zB ?_;intro K hK)|(refine zC ?_ ?_<;>(try refine zH ?_)<;>intro hcond<;>try exact zX)|fail)
        simp [Rets, aret, Blk.cells, ty, Tryz.results143, ares, toT1, toT, borrow, borrow0, capCell, toTree0, tint, h0]
  ·
    simp [Rets, aret, Blk.cells, ty, Tryz.results143, ares, toT1, toT, borrow, borrow0, capCell, toTree0, tint, checkG]
    all_goals omega
end Go.Proofs.YtfkegnhpihoncaaGreat
set_option linter.all false
namespace Go.Proofs.YtfkegnhpihoncaaGreat
open Go.Sp
set_option linter.unusedSimpArgs false
set_option linter.unusedVariables false
set_option maxHeartbeats 4000000
set_option maxRecDepth 100000
def itemsP (l : List (Int × Int)) : List (List TVal) := l.zipIdx.map fun p => [tint (p.2 : Int), tpair p.1.1 p.1.2]
theorem itemsP_len (l : List (Int × Int)) : (itemsP l).length = l.length := by simp [itemsP]
theorem itemsP_get {l : List (Int × Int)} {i : Nat} {p : Int × Int} (h : l[i]? = some p) : (itemsP l)[i]? = some [tint (i : Int), tpair p.1 p.2] := by
  simp [itemsP, h]
theorem itemsP_inv {l : List (Int × Int)} {i : Nat} {ts : List TVal} (h : (itemsP l)[i]? = some ts) : ∃ p, l[i]? = some p ∧ ts = [tint (i : Int), tpair p.1 p.2] := by
  simp only [itemsP, List.getElem?_map, List.getElem?_zipIdx] at h
  cases hl : l[i]? with
  | none => simp [hl] at h
  | some p => simp [hl] at h; exact ⟨p, rfl, h.symm⟩
theorem endsL_get {es : List E} {i k : Nat} (h : i < es.length) (hk : k < (es[i]'h).m.toNat) : (endsL es)[(endsL (es.take i)).length + k]? = some (es[i].a, es[i].b) := by
  have e : endsL es = endsL (es.take i) ++ (List.replicate es[i].m.toNat (es[i].a, es[i].b) ++ endsL (es.drop (i + 1))) := by
    rw [← List.append_assoc, ← endsL_take h, ← endsL_append, List.take_append_drop]
  rw [e, List.getElem?_append_right (by omega), Nat.add_sub_cancel_left, List.getElem?_append_left (by rw [List.length_replicate]; exact hk)]
  rw [List.getElem?_replicate, if_pos hk]
theorem singles1_ok (g : G) (hs : (endsL g.es).length < 2 ^ 40) (hl : g.es.length < 2 ^ 40) (hm : ∀ e, e ∈ g.es → e.m < 2 ^ 40) : AIter Tryz.prog 172 [.rptr [.int .i64 g.n, .slice (eRows g.es)]] (itemsP (endsL g.es)) := by
  refine AIter.of_body Tryz.func172 rfl (by kernel_rfl) rfl (fun l J Jx hJ hJx hY => ?_)
  simp only [entry, Tryz.ntmps172, ofT, ofT1, ofTree, List.map_cons, List.map_nil, List.length_cons, List.length_nil, Nat.reduceAdd, Nat.reduceSub, List.replicate_succ, List.replicate_zero, List.cons_append, List.nil_append]
  repeat' (first|((first|(refine zT ?_;intro K' hK')|(refine zG ?_ ?_<;>(try refine zH ?_)<;>intro hguard<;>(try exact zX)<;>try intro K' hK'))<;>((try simp +contextual only [go_sem, eRows_len]);(repeat' first|(with_reducible refine hK' _ _ ?_;clear hK' K')|exact zY|with_reducible refine And.intro ?_ ?_|(with_reducible intro hpath;try exact zP)|(refine hK' _ _ ?_;clear hK' K')|fail);try refine zS ?_))|(refine zE ?_;refine hK _ _ ?_;clear hK K)|(refine zN ?_;try refine zS ?_)|refine zA ?_|(refine zB ?_;intro K hK)|(refine zC ?_ ?_<;>(try refine zH ?_)<;>intro hcond<;>try exact zX)|fail)
  refine AWp.loopx (α:=Nat) (fun i=>(⟨.c (.yld l) :: .c (.rptr [.int .i64 g.n, .slice (eRows g.es)]) :: .c .any :: .c (.int .i64 ((endsL (g.es.take i)).length : Int)) :: .c .any :: .c .any :: .c .any :: .c (.slice (eRows g.es) .none) :: .c (.int .i64 (g.es.length : Int)) :: .c (.int .i64 (i : Int)) :: .c .any :: .c .any :: .c .any :: .c .any :: .c .any :: .c .any :: .c .any :: .c .any :: .c .any :: .c .any :: .c .any :: .c .any :: .c .any :: .c .any :: .c .any :: .c .any :: .c .any :: .c .any :: .c .any :: .c .any :: [],[.ghost (J (endsL (g.es.take i)).length)]⟩:St)) (fun i=>i ≤ g.es.length) (fun i=>g.es.length - i) (0) (Weak.headL 1 30 [0, 1, 3, 7, 8, 9] zW) ?_ (fun i hI=>?_)
  · exact Nat.zero_le _
  · by_cases hlt : i < g.es.length
    · have e1 : g.es[i]? = some g.es[i] := List.getElem?_eq_getElem hlt
      have e2 := eRows_get e1
      have hle := endsL_take_le g.es (i + 1)
      rw [endsL_take hlt, List.length_append, List.length_replicate] at hle
      have hmi := hm g.es[i] (List.getElem_mem hlt)
      repeat' (first|((first|(refine zT ?_;intro K' hK')|(refine zG ?_ ?_<;>(try refine zH ?_)<;>intro hguard<;>(try exact zX)<;>try intro K' hK'))<;>((try simp +contextual only [go_sem, eRows_len, Int.ofNat_lt, e2, Int.toNat_natCast]);(repeat' first|(with_reducible refine hK' _ _ ?_;clear hK' K')|exact zY|with_reducible refine And.intro ?_ ?_|(with_reducible intro hpath;try exact zP)|(refine hK' _ _ ?_;clear hK' K')|fail);try refine zS ?_))|(refine zE ?_;refine hK _ _ ?_;clear hK K)|(refine zN ?_;try refine zS ?_)|refine zA ?_|(refine zB ?_;intro K hK)|(refine zC ?_ ?_<;>(try refine zH ?_)<;>intro hcond<;>try exact zX)|fail)
      ·
        refine AWp.loopx (α:=Nat) (fun k=>(⟨.c (.yld l) :: .c (.rptr [.int .i64 g.n, .slice (eRows g.es)]) :: .c .any :: .c (.int .i64 (((endsL (g.es.take i)).length + k : Nat) : Int)) :: .c .any :: .c (.ptr 1 0) :: .c .any :: .c (.slice (eRows g.es) .none) :: .c (.int .i64 (g.es.length : Int)) :: .c (.int .i64 (i : Int)) :: .c .any :: .c .any :: .c .any :: .c .any :: .c (.int .i64 g.es[i].m) :: .c (.int .i64 (k : Int)) :: .c .any :: .c .any :: .c .any :: .c .any :: .c .any :: .c .any :: .c .any :: .c .any :: .c .any :: .c .any :: .c .any :: .c .any :: .c .any :: .c .any :: [],[.ghost (J ((endsL (g.es.take i)).length + k)), .box [.int .i64 g.es[i].a, .int .i64 g.es[i].b, .int .i64 g.es[i].m]]⟩:St)) (fun k=>k ≤ g.es[i].m.toNat) (fun k=>g.es[i].m.toNat - k) (0) (Weak.headL 2 30 [0, 1, 3, 5, 7, 8, 9, 14, 15] zW) ?_ (fun k hI=>?_)
        · exact Nat.zero_le _
        · by_cases hk : (k : Int) < g.es[i].m
          ·
            have hk2 : k < g.es[i].m.toNat := by omega
            have hget := itemsP_get (endsL_get hlt hk2)
            repeat' (first|((with_reducible refine AWp.seq (AWp.of_reg (id:=6) (AReg.pre 7 (fun K hK=>?_))));simp only [List.take_succ_cons,List.take_zero])|((with_reducible refine AWp.of_reg (id:=6) (AReg.pre 7 (fun K hK=>?_)));simp only [List.take_succ_cons,List.take_zero])|((first|(refine zT ?_;intro K' hK')|(refine zG ?_ ?_<;>(try refine zH ?_)<;>intro hguard<;>(try exact zX)<;>try intro K' hK'))<;>((try simp +contextual only [go_sem]);(repeat' first|(with_reducible refine hK' _ _ ?_;clear hK' K')|exact zY|with_reducible refine And.intro ?_ ?_|(with_reducible intro hpath;try exact zP)|(refine hK' _ _ ?_;clear hK' K')|fail);try refine zS ?_))|(refine zE ?_;refine hK _ _ ?_;clear hK K)|(refine zN ?_;try refine zS ?_)|refine zA ?_|(refine zB ?_;intro K hK)|(refine zC ?_ ?_<;>(try refine zH ?_)<;>intro hcond<;>try exact zX)|fail)
            simp only [List.drop_succ_cons, List.drop_zero]
            refine AReg.yield rfl rfl rfl (by rfl) (by with_unfolding_all rfl) (by simp [okBlk]) (hY _ _ hget) (hJ _) hJx ?_ ?_ <;> (try refine zS ?_) <;> refine AReg.rest (fun K hK => ?_)
            ·
              repeat' (first|((first|(refine zT ?_;intro K' hK')|(refine zG ?_ ?_<;>(try refine zH ?_)<;>intro hguard<;>(try exact zX)<;>try intro K' hK'))<;>((try simp +contextual only [go_sem]);(repeat' first|(with_reducible refine hK' _ _ ?_;clear hK' K')|exact zY|with_reducible refine And.intro ?_ ?_|(with_reducible intro hpath;try exact zP)|(refine hK' _ _ ?_;clear hK' K')|fail);try refine zS ?_))|(refine zE ?_;refine hK _ _ ?_;clear hK K)|(refine zN ?_;try refine zS ?_)|refine zA ?_|(refine zB ?_;intro K hK)|(refine zC ?_ ?_<;>(try refine zH ?_)<;>intro hcond<;>try exact zX)|fail)
              refine ⟨k + 1,Weak.headN 2 30 [0, 1, 3, 5, 7, 8, 9, 14, 15] zW (e1:=by first|rfl|(simp [mask,keepL, Nat.add_assoc];done)|(simp [mask,keepL, Nat.add_assoc]<;>simp_all<;>omega)) (e2:=by first|rfl|(simp [mask,keepL, Nat.add_assoc];done)|(simp [mask,keepL, Nat.add_assoc]<;>simp_all<;>omega)),?_,?_⟩
              · exact hk2
              · omega
            ·
              repeat' (first|((first|(refine zT ?_;intro K' hK')|(refine zG ?_ ?_<;>(try refine zH ?_)<;>intro hguard<;>(try exact zX)<;>try intro K' hK'))<;>((try simp +contextual only [go_sem]);(repeat' first|(with_reducible refine hK' _ _ ?_;clear hK' K')|exact zY|with_reducible refine And.intro ?_ ?_|(with_reducible intro hpath;try exact zP)|(refine hK' _ _ ?_;clear hK' K')|fail);try refine zS ?_))|(refine zE ?_;refine hK _ _ ?_;clear hK K)|(refine zN ?_;try refine zS ?_)|refine zA ?_|(refine zB ?_;intro K hK)|(refine zC ?_ ?_<;>(try refine zH ?_)<;>intro hcond<;>try exact zX)|fail)
              exact ⟨True.intro, _, .inr rfl⟩
          ·
            have ek : k = g.es[i].m.toNat := by omega
            repeat' (first|((first|(refine zT ?_;intro K' hK')|(refine zG ?_ ?_<;>(try refine zH ?_)<;>intro hguard<;>(try exact zX)<;>try intro K' hK'))<;>((try simp +contextual only [go_sem, e2, Int.toNat_natCast]);(repeat' first|(with_reducible refine hK' _ _ ?_;clear hK' K')|exact zY|with_reducible refine And.intro ?_ ?_|(with_reducible intro hpath;try exact zP)|(refine hK' _ _ ?_;clear hK' K')|fail);try refine zS ?_))|(refine zE ?_;refine hK _ _ ?_;clear hK K)|(refine zN ?_;try refine zS ?_)|refine zA ?_|(refine zB ?_;intro K hK)|(refine zC ?_ ?_<;>(try refine zH ?_)<;>intro hcond<;>try exact zX)|fail)
            refine ⟨i + 1,Weak.headN 1 30 [0, 1, 3, 7, 8, 9] zW (e1:=by first|rfl|(simp [mask,keepL, endsL_take hlt, ek];done)|(simp [mask,keepL, endsL_take hlt, ek]<;>simp_all<;>omega)) (e2:=by first|rfl|(simp [mask,keepL, endsL_take hlt, ek];done)|(simp [mask,keepL, endsL_take hlt, ek]<;>simp_all<;>omega)),?_,?_⟩
            · exact hlt
            · omega
    · have ei : i = g.es.length := by omega
      repeat' (first|((first|(refine zT ?_;intro K' hK')|(refine zG ?_ ?_<;>(try refine zH ?_)<;>intro hguard<;>(try exact zX)<;>try intro K' hK'))<;>((try simp +contextual only [go_sem, eRows_len, Int.ofNat_lt]);(repeat' first|(with_reducible refine hK' _ _ ?_;clear hK' K')|exact zY|with_reducible refine And.intro ?_ ?_|(with_reducible intro hpath;try exact zP)|(refine hK' _ _ ?_;clear hK' K')|fail);try refine zS ?_))|(refine zE ?_;refine hK _ _ ?_;clear hK K)|(refine zN ?_;try refine zS ?_)|refine zA ?_|(refine zB ?_;intro K hK)|(refine zC ?_ ?_<;>(try refine zH ?_)<;>intro hcond<;>try exact zX)|fail)
      exact ⟨True.intro, _, .inl (by rw [itemsP_len, ei, List.take_length])⟩
theorem singles_ok (g : G) : ACall Tryz.prog 144 [tG g] (.t (.fn 172 [.rptr [.int .i64 g.n, .slice (eRows g.es)]])) := by
  refine ACall.of_body Tryz.func144 rfl (by kernel_rfl) ?_
  simp only [entry, Tryz.ntmps144, tG]
  refine zU ?_
  repeat' (first|((first|(refine zT ?_;intro K' hK')|(refine zG ?_ ?_<;>(try refine zH ?_)<;>intro hguard<;>(try exact zX)<;>try intro K' hK'))<;>((try simp +contextual only [go_sem]);(repeat' first|(with_reducible refine hK' _ _ ?_;clear hK' K')|exact zY|with_reducible refine And.intro ?_ ?_|(with_reducible intro hpath;try exact zP)|(refine hK' _ _ ?_;clear hK' K')|fail);try refine zS ?_))|(refine zE ?_;refine hK _ _ ?_;clear hK K)|(refine zN ?_;try refine zS ?_)|refine zA ?_|(refine zB ?_;intro K hK)|(refine zC ?_ ?_<;>(try refine zH ?_)<;>intro hcond<;>try exact zX)|fail)
  simp [Rets, aret, Blk.cells, ty, Tryz.results144, ares, toT1, toT, borrow, borrow0, capCell, toTree0]
end Go.Proofs.YtfkegnhpihoncaaGreat
