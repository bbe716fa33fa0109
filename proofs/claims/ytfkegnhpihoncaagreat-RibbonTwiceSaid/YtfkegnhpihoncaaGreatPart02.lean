/- A part of the proof: contracts of functions of the program, and plain lemmas. -/
import Derived.Test.YtfkegnhpihoncaaGreatLayerC
import Derived.Test.YtfkegnhpihoncaaGreatProg
import Derived.KernelRfl
set_option linter.all false
namespace Go.Proofs.YtfkegnhpihoncaaGreat
open Go.Sp
theorem ty0 : tAgg Tryz.prog 2 = some false := by kernel_rfl
theorem ty1 : tSize Tryz.prog 2 = some 1 := by kernel_rfl
theorem ty2 : tZero Tryz.prog 2 = some (.int .i64 0) := by kernel_rfl
theorem ty3 : tBytes Tryz.prog 2 = some 8 := by kernel_rfl
theorem ty4 : Tryz.prog.underlying 2 = some (.int .i64) := by kernel_rfl
theorem ty5 : tAgg Tryz.prog 3 = some false := by kernel_rfl
theorem ty6 : tSize Tryz.prog 3 = some 1 := by kernel_rfl
theorem ty7 : tZero Tryz.prog 3 = some (.int .i64 0) := by kernel_rfl
theorem ty8 : tBytes Tryz.prog 3 = some 8 := by kernel_rfl
theorem ty9 : Tryz.prog.underlying 3 = some (.int .i64) := by kernel_rfl
theorem ty10 : tAgg Tryz.prog 4 = some false := by kernel_rfl
theorem ty11 : tSize Tryz.prog 4 = some 1 := by kernel_rfl
theorem ty12 : tZero Tryz.prog 4 = some (.bool false) := by kernel_rfl
theorem ty13 : tBytes Tryz.prog 4 = some 1 := by kernel_rfl
theorem ty14 : Tryz.prog.underlying 4 = some .bool := by kernel_rfl
theorem ty15 : tAgg Tryz.prog 5 = some false := by kernel_rfl
theorem ty16 : tSize Tryz.prog 5 = some 1 := by kernel_rfl
theorem ty17 : tZero Tryz.prog 5 = some (.int .u8 0) := by kernel_rfl
theorem ty18 : tBytes Tryz.prog 5 = some 1 := by kernel_rfl
theorem ty19 : Tryz.prog.underlying 5 = some (.int .u8) := by kernel_rfl
theorem ty20 : tAgg Tryz.prog 9 = some false := by kernel_rfl
theorem ty21 : tSize Tryz.prog 9 = some 1 := by kernel_rfl
theorem ty22 : tZero Tryz.prog 9 = some (.string ByteArray.empty) := by kernel_rfl
theorem ty23 : tBytes Tryz.prog 9 = some 16 := by kernel_rfl
theorem ty24 : tAgg Tryz.prog 21 = some false := by kernel_rfl
theorem ty25 : tSize Tryz.prog 21 = some 1 := by kernel_rfl
theorem ty26 : tZero Tryz.prog 21 = some (.int .i32 0) := by kernel_rfl
theorem ty27 : tBytes Tryz.prog 21 = some 4 := by kernel_rfl
theorem ty28 : Tryz.prog.underlying 21 = some (.int .i32) := by kernel_rfl
theorem ty29 : tAgg Tryz.prog 22 = some false := by kernel_rfl
theorem ty30 : tSize Tryz.prog 22 = some 1 := by kernel_rfl
theorem ty31 : tZero Tryz.prog 22 = some (.slice none 0 0) := by kernel_rfl
theorem ty32 : tBytes Tryz.prog 22 = some 24 := by kernel_rfl
theorem ty33 : tElem Tryz.prog 22 = some (none, 76) := by kernel_rfl
theorem ty34 : tAgg Tryz.prog 24 = some true := by kernel_rfl
theorem ty35 : tSize Tryz.prog 24 = some 2 := by kernel_rfl
theorem ty36 : tZero Tryz.prog 24 = some (.agg #[.int .i64 0, .slice none 0 0]) := by kernel_rfl
theorem ty37 : tBytes Tryz.prog 24 = some 32 := by kernel_rfl
theorem ty38 : tField Tryz.prog 24 0 = some (0, 3) := by kernel_rfl
theorem ty39 : tField Tryz.prog 24 1 = some (1, 22) := by kernel_rfl
theorem ty40 : tBuild Tryz.prog 24 = some (.agg #[.int .i64 0, .slice none 0 0], fun i => (#[(0, 1), (1, 1)] : Array (Nat × Nat))[i]?) := by kernel_rfl
theorem ty41 : tAgg Tryz.prog 25 = some false := by kernel_rfl
theorem ty42 : tSize Tryz.prog 25 = some 1 := by kernel_rfl
theorem ty43 : tZero Tryz.prog 25 = some (.slice none 0 0) := by kernel_rfl
theorem ty44 : tBytes Tryz.prog 25 = some 24 := by kernel_rfl
theorem ty45 : tElem Tryz.prog 25 = some (none, 40) := by kernel_rfl
theorem ty46 : tAgg Tryz.prog 27 = some true := by kernel_rfl
theorem ty47 : tSize Tryz.prog 27 = some 3 := by kernel_rfl
theorem ty48 : tZero Tryz.prog 27 = some (.agg #[.int .i64 0, .slice none 0 0, .slice none 0 0]) := by kernel_rfl
theorem ty49 : tBytes Tryz.prog 27 = some 56 := by kernel_rfl
theorem ty50 : tField Tryz.prog 27 0 = some (0, 24) := by kernel_rfl
theorem ty51 : tField Tryz.prog 27 1 = some (2, 25) := by kernel_rfl
theorem ty52 : tBuild Tryz.prog 27 = some (.agg #[.int .i64 0, .slice none 0 0, .slice none 0 0], fun i => (#[(0, 2), (2, 1)] : Array (Nat × Nat))[i]?) := by kernel_rfl
theorem ty53 : tAgg Tryz.prog 30 = some false := by kernel_rfl
theorem ty54 : tSize Tryz.prog 30 = some 1 := by kernel_rfl
theorem ty55 : tZero Tryz.prog 30 = some (.int .i64 0) := by kernel_rfl
theorem ty56 : tBytes Tryz.prog 30 = some 8 := by kernel_rfl
theorem ty57 : Tryz.prog.underlying 30 = some (.int .i64) := by kernel_rfl
theorem ty58 : tAgg Tryz.prog 39 = some false := by kernel_rfl
theorem ty59 : tSize Tryz.prog 39 = some 1 := by kernel_rfl
theorem ty60 : tZero Tryz.prog 39 = some (.map none) := by kernel_rfl
theorem ty61 : tBytes Tryz.prog 39 = some 8 := by kernel_rfl
theorem ty62 : tMap Tryz.prog 39 = some (3, 4) := by kernel_rfl
theorem ty63 : tAgg Tryz.prog 40 = some false := by kernel_rfl
theorem ty64 : tSize Tryz.prog 40 = some 1 := by kernel_rfl
theorem ty65 : tZero Tryz.prog 40 = some (.slice none 0 0) := by kernel_rfl
theorem ty66 : tBytes Tryz.prog 40 = some 24 := by kernel_rfl
theorem ty67 : tElem Tryz.prog 40 = some (none, 3) := by kernel_rfl
theorem ty68 : tAgg Tryz.prog 44 = some false := by kernel_rfl
theorem ty69 : tSize Tryz.prog 44 = some 1 := by kernel_rfl
theorem ty70 : tZero Tryz.prog 44 = some (.slice none 0 0) := by kernel_rfl
theorem ty71 : tBytes Tryz.prog 44 = some 24 := by kernel_rfl
theorem ty72 : tElem Tryz.prog 44 = some (none, 4) := by kernel_rfl
theorem ty73 : tAgg Tryz.prog 59 = some true := by kernel_rfl
theorem ty74 : tSize Tryz.prog 59 = some 2 := by kernel_rfl
theorem ty75 : tZero Tryz.prog 59 = some (.agg #[.slice none 0 0, .slice none 0 0]) := by kernel_rfl
theorem ty76 : tBytes Tryz.prog 59 = some 48 := by kernel_rfl
theorem ty77 : tElem Tryz.prog 59 = some (some 2, 40) := by kernel_rfl
theorem ty78 : tBuild Tryz.prog 59 = some (.agg #[.slice none 0 0, .slice none 0 0], fun i => some (i * 1, 1)) := by kernel_rfl
theorem ty79 : tAgg Tryz.prog 60 = some false := by kernel_rfl
theorem ty80 : tSize Tryz.prog 60 = some 1 := by kernel_rfl
theorem ty81 : tZero Tryz.prog 60 = some (.slice none 0 0) := by kernel_rfl
theorem ty82 : tBytes Tryz.prog 60 = some 24 := by kernel_rfl
theorem ty83 : tElem Tryz.prog 60 = some (none, 25) := by kernel_rfl
theorem ty84 : tAgg Tryz.prog 76 = some true := by kernel_rfl
theorem ty85 : tSize Tryz.prog 76 = some 3 := by kernel_rfl
theorem ty86 : tZero Tryz.prog 76 = some (.agg #[.int .i64 0, .int .i64 0, .int .i64 0]) := by kernel_rfl
theorem ty87 : tBytes Tryz.prog 76 = some 24 := by kernel_rfl
theorem ty88 : tField Tryz.prog 76 0 = some (0, 3) := by kernel_rfl
theorem ty89 : tField Tryz.prog 76 1 = some (1, 3) := by kernel_rfl
theorem ty90 : tField Tryz.prog 76 2 = some (2, 3) := by kernel_rfl
theorem ty91 : tBuild Tryz.prog 76 = some (.agg #[.int .i64 0, .int .i64 0, .int .i64 0], fun i => (#[(0, 1), (1, 1), (2, 1)] : Array (Nat × Nat))[i]?) := by kernel_rfl
theorem ty92 : tAgg Tryz.prog 78 = some false := by kernel_rfl
theorem ty93 : tSize Tryz.prog 78 = some 1 := by kernel_rfl
theorem ty94 : tZero Tryz.prog 78 = some (.slice none 0 0) := by kernel_rfl
theorem ty95 : tBytes Tryz.prog 78 = some 24 := by kernel_rfl
theorem ty96 : tElem Tryz.prog 78 = some (none, 86) := by kernel_rfl
theorem ty97 : tAgg Tryz.prog 86 = some true := by kernel_rfl
theorem ty98 : tSize Tryz.prog 86 = some 2 := by kernel_rfl
theorem ty99 : tZero Tryz.prog 86 = some (.agg #[.int .i64 0, .int .i64 0]) := by kernel_rfl
theorem ty100 : tBytes Tryz.prog 86 = some 16 := by kernel_rfl
theorem ty101 : tElem Tryz.prog 86 = some (some 2, 3) := by kernel_rfl
theorem ty102 : tBuild Tryz.prog 86 = some (.agg #[.int .i64 0, .int .i64 0], fun i => some (i * 1, 1)) := by kernel_rfl
theorem ty103 : tAgg Tryz.prog 105 = some false := by kernel_rfl
theorem ty104 : tSize Tryz.prog 105 = some 1 := by kernel_rfl
theorem ty105 : tZero Tryz.prog 105 = some (.int .u64 0) := by kernel_rfl
theorem ty106 : tBytes Tryz.prog 105 = some 8 := by kernel_rfl
theorem ty107 : Tryz.prog.underlying 105 = some (.int .u64) := by kernel_rfl
theorem ty108 : tAgg Tryz.prog 117 = some false := by kernel_rfl
theorem ty109 : tSize Tryz.prog 117 = some 1 := by kernel_rfl
theorem ty110 : tZero Tryz.prog 117 = some (.map none) := by kernel_rfl
theorem ty111 : tBytes Tryz.prog 117 = some 8 := by kernel_rfl
theorem ty112 : tMap Tryz.prog 117 = some (121, 3) := by kernel_rfl
theorem ty113 : tAgg Tryz.prog 118 = some false := by kernel_rfl
theorem ty114 : tSize Tryz.prog 118 = some 1 := by kernel_rfl
theorem ty115 : tZero Tryz.prog 118 = some (.map none) := by kernel_rfl
theorem ty116 : tBytes Tryz.prog 118 = some 8 := by kernel_rfl
theorem ty117 : tMap Tryz.prog 118 = some (121, 3) := by kernel_rfl
theorem ty118 : tAgg Tryz.prog 121 = some true := by kernel_rfl
theorem ty119 : tSize Tryz.prog 121 = some 2 := by kernel_rfl
theorem ty120 : tZero Tryz.prog 121 = some (.agg #[.int .i64 0, .int .i64 0]) := by kernel_rfl
theorem ty121 : tBytes Tryz.prog 121 = some 16 := by kernel_rfl
theorem ty122 : tField Tryz.prog 121 0 = some (0, 3) := by kernel_rfl
theorem ty123 : tField Tryz.prog 121 1 = some (1, 3) := by kernel_rfl
theorem ty124 : tBuild Tryz.prog 121 = some (.agg #[.int .i64 0, .int .i64 0], fun i => (#[(0, 1), (1, 1)] : Array (Nat × Nat))[i]?) := by kernel_rfl
theorem ty125 : tAgg Tryz.prog 135 = some false := by kernel_rfl
theorem ty126 : tSize Tryz.prog 135 = some 1 := by kernel_rfl
theorem ty127 : tZero Tryz.prog 135 = some (.int .i64 0) := by kernel_rfl
theorem ty128 : tBytes Tryz.prog 135 = some 8 := by kernel_rfl
theorem ty129 : Tryz.prog.underlying 135 = some (.int .i64) := by kernel_rfl
theorem ty130 : tAgg Tryz.prog 143 = some false := by kernel_rfl
theorem ty131 : tSize Tryz.prog 143 = some 1 := by kernel_rfl
theorem ty132 : tZero Tryz.prog 143 = some (.int .u32 0) := by kernel_rfl
theorem ty133 : tBytes Tryz.prog 143 = some 4 := by kernel_rfl
theorem ty134 : Tryz.prog.underlying 143 = some (.int .u32) := by kernel_rfl
theorem ty135 : tAgg Tryz.prog 145 = some false := by kernel_rfl
theorem ty136 : tSize Tryz.prog 145 = some 1 := by kernel_rfl
theorem ty137 : tZero Tryz.prog 145 = some (.int .u64 0) := by kernel_rfl
theorem ty138 : tBytes Tryz.prog 145 = some 8 := by kernel_rfl
theorem ty139 : Tryz.prog.underlying 145 = some (.int .u64) := by kernel_rfl
theorem ty140 : tAgg Tryz.prog 169 = some false := by kernel_rfl
theorem ty141 : tSize Tryz.prog 169 = some 1 := by kernel_rfl
theorem ty142 : tZero Tryz.prog 169 = some (.int .u64 0) := by kernel_rfl
theorem ty143 : tBytes Tryz.prog 169 = some 8 := by kernel_rfl
theorem ty144 : Tryz.prog.underlying 169 = some (.int .u64) := by kernel_rfl
theorem ty145 : tAgg Tryz.prog 173 = some false := by kernel_rfl
theorem ty146 : tSize Tryz.prog 173 = some 1 := by kernel_rfl
theorem ty147 : tZero Tryz.prog 173 = some (.pointer none) := by kernel_rfl
theorem ty148 : tBytes Tryz.prog 173 = some 8 := by kernel_rfl
theorem ty149 : tAgg Tryz.prog 177 = some true := by kernel_rfl
theorem ty150 : tSize Tryz.prog 177 = some 12 := by kernel_rfl
theorem ty151 : tZero Tryz.prog 177 = some (.agg #[.int .i64 0, .int .i64 0, .int .i64 0, .int .i64 0, .int .i64 0, .int .i64 0, .int .i64 0, .int .i64 0, .int .i64 0, .int .i64 0, .int .i64 0, .int .i64 0]) := by kernel_rfl
theorem ty152 : tBytes Tryz.prog 177 = some 96 := by kernel_rfl
theorem ty153 : tElem Tryz.prog 177 = some (some 12, 3) := by kernel_rfl
theorem ty154 : tBuild Tryz.prog 177 = some (.agg #[.int .i64 0, .int .i64 0, .int .i64 0, .int .i64 0, .int .i64 0, .int .i64 0, .int .i64 0, .int .i64 0, .int .i64 0, .int .i64 0, .int .i64 0, .int .i64 0], fun i => some (i * 1, 1)) := by kernel_rfl
theorem ty155 : tAgg Tryz.prog 178 = some true := by kernel_rfl
theorem ty156 : tSize Tryz.prog 178 = some 12 := by kernel_rfl
theorem ty157 : tZero Tryz.prog 178 = some (.agg #[.int .i64 0, .int .i64 0, .int .i64 0, .int .i64 0, .int .i64 0, .int .i64 0, .int .i64 0, .int .i64 0, .int .i64 0, .int .i64 0, .int .i64 0, .int .i64 0]) := by kernel_rfl
theorem ty158 : tBytes Tryz.prog 178 = some 96 := by kernel_rfl
theorem ty159 : tElem Tryz.prog 178 = some (some 12, 3) := by kernel_rfl
theorem ty160 : tBuild Tryz.prog 178 = some (.agg #[.int .i64 0, .int .i64 0, .int .i64 0, .int .i64 0, .int .i64 0, .int .i64 0, .int .i64 0, .int .i64 0, .int .i64 0, .int .i64 0, .int .i64 0, .int .i64 0], fun i => some (i * 1, 1)) := by kernel_rfl
theorem ty161 : tAgg Tryz.prog 196 = some true := by kernel_rfl
theorem ty162 : tSize Tryz.prog 196 = some 12 := by kernel_rfl
theorem ty163 : tZero Tryz.prog 196 = some (.agg #[.int .i64 0, .int .i64 0, .int .i64 0, .int .i64 0, .int .i64 0, .int .i64 0, .int .i64 0, .int .i64 0, .int .i64 0, .int .i64 0, .int .i64 0, .int .i64 0]) := by kernel_rfl
theorem ty164 : tBytes Tryz.prog 196 = some 96 := by kernel_rfl
theorem ty165 : tElem Tryz.prog 196 = some (some 12, 3) := by kernel_rfl
theorem ty166 : tBuild Tryz.prog 196 = some (.agg #[.int .i64 0, .int .i64 0, .int .i64 0, .int .i64 0, .int .i64 0, .int .i64 0, .int .i64 0, .int .i64 0, .int .i64 0, .int .i64 0, .int .i64 0, .int .i64 0], fun i => some (i * 1, 1)) := by kernel_rfl
theorem ty167 : tAgg Tryz.prog 198 = some false := by kernel_rfl
theorem ty168 : tSize Tryz.prog 198 = some 1 := by kernel_rfl
theorem ty169 : tZero Tryz.prog 198 = some (.pointer none) := by kernel_rfl
theorem ty170 : tBytes Tryz.prog 198 = some 8 := by kernel_rfl
theorem ty171 : tAgg Tryz.prog 201 = some false := by kernel_rfl
theorem ty172 : tSize Tryz.prog 201 = some 1 := by kernel_rfl
theorem ty173 : tZero Tryz.prog 201 = some (.pointer none) := by kernel_rfl
theorem ty174 : tBytes Tryz.prog 201 = some 8 := by kernel_rfl
theorem ty175 : tAgg Tryz.prog 211 = some false := by kernel_rfl
theorem ty176 : tSize Tryz.prog 211 = some 1 := by kernel_rfl
theorem ty177 : tZero Tryz.prog 211 = some (.pointer none) := by kernel_rfl
theorem ty178 : tBytes Tryz.prog 211 = some 8 := by kernel_rfl
theorem ty179 : tAgg Tryz.prog 212 = some false := by kernel_rfl
theorem ty180 : tSize Tryz.prog 212 = some 1 := by kernel_rfl
theorem ty181 : tZero Tryz.prog 212 = some (.map none) := by kernel_rfl
theorem ty182 : tBytes Tryz.prog 212 = some 8 := by kernel_rfl
theorem ty183 : tMap Tryz.prog 212 = some (3, 3) := by kernel_rfl
theorem ty184 : tAgg Tryz.prog 227 = some false := by kernel_rfl
theorem ty185 : tSize Tryz.prog 227 = some 1 := by kernel_rfl
theorem ty186 : tZero Tryz.prog 227 = some (.pointer none) := by kernel_rfl
theorem ty187 : tBytes Tryz.prog 227 = some 8 := by kernel_rfl
theorem tyg0 :
  (tAgg Tryz.prog 2 = some false) ∧
  (tSize Tryz.prog 2 = some 1) ∧
  (tZero Tryz.prog 2 = some (.int .i64 0)) ∧
  (tBytes Tryz.prog 2 = some 8) ∧
  (Tryz.prog.underlying 2 = some (.int .i64)) ∧
  (tAgg Tryz.prog 3 = some false) ∧
  (tSize Tryz.prog 3 = some 1) ∧
  (tZero Tryz.prog 3 = some (.int .i64 0)) ∧
  (tBytes Tryz.prog 3 = some 8) ∧
  (Tryz.prog.underlying 3 = some (.int .i64)) ∧
  (tAgg Tryz.prog 4 = some false) ∧
  (tSize Tryz.prog 4 = some 1) ∧
  (tZero Tryz.prog 4 = some (.bool false)) ∧
  (tBytes Tryz.prog 4 = some 1) ∧
  (Tryz.prog.underlying 4 = some .bool) ∧
  (tAgg Tryz.prog 5 = some false) :=
  ⟨ty0, ty1, ty2, ty3, ty4, ty5, ty6, ty7, ty8, ty9, ty10, ty11, ty12, ty13, ty14, ty15⟩
theorem tyg1 :
  (tSize Tryz.prog 5 = some 1) ∧
  (tZero Tryz.prog 5 = some (.int .u8 0)) ∧
  (tBytes Tryz.prog 5 = some 1) ∧
  (Tryz.prog.underlying 5 = some (.int .u8)) ∧
  (tAgg Tryz.prog 9 = some false) ∧
  (tSize Tryz.prog 9 = some 1) ∧
  (tZero Tryz.prog 9 = some (.string ByteArray.empty)) ∧
  (tBytes Tryz.prog 9 = some 16) ∧
  (tAgg Tryz.prog 21 = some false) ∧
  (tSize Tryz.prog 21 = some 1) ∧
  (tZero Tryz.prog 21 = some (.int .i32 0)) ∧
  (tBytes Tryz.prog 21 = some 4) ∧
  (Tryz.prog.underlying 21 = some (.int .i32)) ∧
  (tAgg Tryz.prog 22 = some false) ∧
  (tSize Tryz.prog 22 = some 1) ∧
  (tZero Tryz.prog 22 = some (.slice none 0 0)) :=
  ⟨ty16, ty17, ty18, ty19, ty20, ty21, ty22, ty23, ty24, ty25, ty26, ty27, ty28, ty29, ty30, ty31⟩
theorem tyg2 :
  (tBytes Tryz.prog 22 = some 24) ∧
  (tElem Tryz.prog 22 = some (none, 76)) ∧
  (tAgg Tryz.prog 24 = some true) ∧
  (tSize Tryz.prog 24 = some 2) ∧
  (tZero Tryz.prog 24 = some (.agg #[.int .i64 0, .slice none 0 0])) ∧
  (tBytes Tryz.prog 24 = some 32) ∧
  (tField Tryz.prog 24 0 = some (0, 3)) ∧
  (tField Tryz.prog 24 1 = some (1, 22)) ∧
  (tBuild Tryz.prog 24 = some (.agg #[.int .i64 0, .slice none 0 0], fun i => (#[(0, 1), (1, 1)] : Array (Nat × Nat))[i]?)) ∧
  (tAgg Tryz.prog 25 = some false) ∧
  (tSize Tryz.prog 25 = some 1) ∧
  (tZero Tryz.prog 25 = some (.slice none 0 0)) ∧
  (tBytes Tryz.prog 25 = some 24) ∧
  (tElem Tryz.prog 25 = some (none, 40)) ∧
  (tAgg Tryz.prog 27 = some true) ∧
  (tSize Tryz.prog 27 = some 3) :=
  ⟨ty32, ty33, ty34, ty35, ty36, ty37, ty38, ty39, ty40, ty41, ty42, ty43, ty44, ty45, ty46, ty47⟩
theorem tyg3 :
  (tZero Tryz.prog 27 = some (.agg #[.int .i64 0, .slice none 0 0, .slice none 0 0])) ∧
  (tBytes Tryz.prog 27 = some 56) ∧
  (tField Tryz.prog 27 0 = some (0, 24)) ∧
  (tField Tryz.prog 27 1 = some (2, 25)) ∧
  (tBuild Tryz.prog 27 = some (.agg #[.int .i64 0, .slice none 0 0, .slice none 0 0], fun i => (#[(0, 2), (2, 1)] : Array (Nat × Nat))[i]?)) ∧
  (tAgg Tryz.prog 30 = some false) ∧
  (tSize Tryz.prog 30 = some 1) ∧
  (tZero Tryz.prog 30 = some (.int .i64 0)) ∧
  (tBytes Tryz.prog 30 = some 8) ∧
  (Tryz.prog.underlying 30 = some (.int .i64)) ∧
  (tAgg Tryz.prog 39 = some false) ∧
  (tSize Tryz.prog 39 = some 1) ∧
  (tZero Tryz.prog 39 = some (.map none)) ∧
  (tBytes Tryz.prog 39 = some 8) ∧
  (tMap Tryz.prog 39 = some (3, 4)) ∧
  (tAgg Tryz.prog 40 = some false) :=
  ⟨ty48, ty49, ty50, ty51, ty52, ty53, ty54, ty55, ty56, ty57, ty58, ty59, ty60, ty61, ty62, ty63⟩
theorem tyg4 :
  (tSize Tryz.prog 40 = some 1) ∧
  (tZero Tryz.prog 40 = some (.slice none 0 0)) ∧
  (tBytes Tryz.prog 40 = some 24) ∧
  (tElem Tryz.prog 40 = some (none, 3)) ∧
  (tAgg Tryz.prog 44 = some false) ∧
  (tSize Tryz.prog 44 = some 1) ∧
  (tZero Tryz.prog 44 = some (.slice none 0 0)) ∧
  (tBytes Tryz.prog 44 = some 24) ∧
  (tElem Tryz.prog 44 = some (none, 4)) ∧
  (tAgg Tryz.prog 59 = some true) ∧
  (tSize Tryz.prog 59 = some 2) ∧
  (tZero Tryz.prog 59 = some (.agg #[.slice none 0 0, .slice none 0 0])) ∧
  (tBytes Tryz.prog 59 = some 48) ∧
  (tElem Tryz.prog 59 = some (some 2, 40)) ∧
  (tBuild Tryz.prog 59 = some (.agg #[.slice none 0 0, .slice none 0 0], fun i => some (i * 1, 1))) ∧
  (tAgg Tryz.prog 60 = some false) :=
  ⟨ty64, ty65, ty66, ty67, ty68, ty69, ty70, ty71, ty72, ty73, ty74, ty75, ty76, ty77, ty78, ty79⟩
theorem tyg5 :
  (tSize Tryz.prog 60 = some 1) ∧
  (tZero Tryz.prog 60 = some (.slice none 0 0)) ∧
  (tBytes Tryz.prog 60 = some 24) ∧
  (tElem Tryz.prog 60 = some (none, 25)) ∧
  (tAgg Tryz.prog 76 = some true) ∧
  (tSize Tryz.prog 76 = some 3) ∧
  (tZero Tryz.prog 76 = some (.agg #[.int .i64 0, .int .i64 0, .int .i64 0])) ∧
  (tBytes Tryz.prog 76 = some 24) ∧
  (tField Tryz.prog 76 0 = some (0, 3)) ∧
  (tField Tryz.prog 76 1 = some (1, 3)) ∧
  (tField Tryz.prog 76 2 = some (2, 3)) ∧
  (tBuild Tryz.prog 76 = some (.agg #[.int .i64 0, .int .i64 0, .int .i64 0], fun i => (#[(0, 1), (1, 1), (2, 1)] : Array (Nat × Nat))[i]?)) ∧
  (tAgg Tryz.prog 78 = some false) ∧
  (tSize Tryz.prog 78 = some 1) ∧
  (tZero Tryz.prog 78 = some (.slice none 0 0)) ∧
  (tBytes Tryz.prog 78 = some 24) :=
  ⟨ty80, ty81, ty82, ty83, ty84, ty85, ty86, ty87, ty88, ty89, ty90, ty91, ty92, ty93, ty94, ty95⟩
theorem tyg6 :
  (tElem Tryz.prog 78 = some (none, 86)) ∧
  (tAgg Tryz.prog 86 = some true) ∧
  (tSize Tryz.prog 86 = some 2) ∧
  (tZero Tryz.prog 86 = some (.agg #[.int .i64 0, .int .i64 0])) ∧
  (tBytes Tryz.prog 86 = some 16) ∧
  (tElem Tryz.prog 86 = some (some 2, 3)) ∧
  (tBuild Tryz.prog 86 = some (.agg #[.int .i64 0, .int .i64 0], fun i => some (i * 1, 1))) ∧
  (tAgg Tryz.prog 105 = some false) ∧
  (tSize Tryz.prog 105 = some 1) ∧
  (tZero Tryz.prog 105 = some (.int .u64 0)) ∧
  (tBytes Tryz.prog 105 = some 8) ∧
  (Tryz.prog.underlying 105 = some (.int .u64)) ∧
  (tAgg Tryz.prog 117 = some false) ∧
  (tSize Tryz.prog 117 = some 1) ∧
  (tZero Tryz.prog 117 = some (.map none)) ∧
  (tBytes Tryz.prog 117 = some 8) :=
  ⟨ty96, ty97, ty98, ty99, ty100, ty101, ty102, ty103, ty104, ty105, ty106, ty107, ty108, ty109, ty110, ty111⟩
theorem tyg7 :
  (tMap Tryz.prog 117 = some (121, 3)) ∧
  (tAgg Tryz.prog 118 = some false) ∧
  (tSize Tryz.prog 118 = some 1) ∧
  (tZero Tryz.prog 118 = some (.map none)) ∧
  (tBytes Tryz.prog 118 = some 8) ∧
  (tMap Tryz.prog 118 = some (121, 3)) ∧
  (tAgg Tryz.prog 121 = some true) ∧
  (tSize Tryz.prog 121 = some 2) ∧
  (tZero Tryz.prog 121 = some (.agg #[.int .i64 0, .int .i64 0])) ∧
  (tBytes Tryz.prog 121 = some 16) ∧
  (tField Tryz.prog 121 0 = some (0, 3)) ∧
  (tField Tryz.prog 121 1 = some (1, 3)) ∧
  (tBuild Tryz.prog 121 = some (.agg #[.int .i64 0, .int .i64 0], fun i => (#[(0, 1), (1, 1)] : Array (Nat × Nat))[i]?)) ∧
  (tAgg Tryz.prog 135 = some false) ∧
  (tSize Tryz.prog 135 = some 1) ∧
  (tZero Tryz.prog 135 = some (.int .i64 0)) :=
  ⟨ty112, ty113, ty114, ty115, ty116, ty117, ty118, ty119, ty120, ty121, ty122, ty123, ty124, ty125, ty126, ty127⟩
theorem tyg8 :
  (tBytes Tryz.prog 135 = some 8) ∧
  (Tryz.prog.underlying 135 = some (.int .i64)) ∧
  (tAgg Tryz.prog 143 = some false) ∧
  (tSize Tryz.prog 143 = some 1) ∧
  (tZero Tryz.prog 143 = some (.int .u32 0)) ∧
  (tBytes Tryz.prog 143 = some 4) ∧
  (Tryz.prog.underlying 143 = some (.int .u32)) ∧
  (tAgg Tryz.prog 145 = some false) ∧
  (tSize Tryz.prog 145 = some 1) ∧
  (tZero Tryz.prog 145 = some (.int .u64 0)) ∧
  (tBytes Tryz.prog 145 = some 8) ∧
  (Tryz.prog.underlying 145 = some (.int .u64)) ∧
  (tAgg Tryz.prog 169 = some false) ∧
  (tSize Tryz.prog 169 = some 1) ∧
  (tZero Tryz.prog 169 = some (.int .u64 0)) ∧
  (tBytes Tryz.prog 169 = some 8) :=
  ⟨ty128, ty129, ty130, ty131, ty132, ty133, ty134, ty135, ty136, ty137, ty138, ty139, ty140, ty141, ty142, ty143⟩
theorem tyg9 :
  (Tryz.prog.underlying 169 = some (.int .u64)) ∧
  (tAgg Tryz.prog 173 = some false) ∧
  (tSize Tryz.prog 173 = some 1) ∧
  (tZero Tryz.prog 173 = some (.pointer none)) ∧
  (tBytes Tryz.prog 173 = some 8) ∧
  (tAgg Tryz.prog 177 = some true) ∧
  (tSize Tryz.prog 177 = some 12) ∧
  (tZero Tryz.prog 177 = some (.agg #[.int .i64 0, .int .i64 0, .int .i64 0, .int .i64 0, .int .i64 0, .int .i64 0, .int .i64 0, .int .i64 0, .int .i64 0, .int .i64 0, .int .i64 0, .int .i64 0])) ∧
  (tBytes Tryz.prog 177 = some 96) ∧
  (tElem Tryz.prog 177 = some (some 12, 3)) ∧
  (tBuild Tryz.prog 177 = some (.agg #[.int .i64 0, .int .i64 0, .int .i64 0, .int .i64 0, .int .i64 0, .int .i64 0, .int .i64 0, .int .i64 0, .int .i64 0, .int .i64 0, .int .i64 0, .int .i64 0], fun i => some (i * 1, 1))) ∧
  (tAgg Tryz.prog 178 = some true) ∧
  (tSize Tryz.prog 178 = some 12) ∧
  (tZero Tryz.prog 178 = some (.agg #[.int .i64 0, .int .i64 0, .int .i64 0, .int .i64 0, .int .i64 0, .int .i64 0, .int .i64 0, .int .i64 0, .int .i64 0, .int .i64 0, .int .i64 0, .int .i64 0])) ∧
  (tBytes Tryz.prog 178 = some 96) ∧
  (tElem Tryz.prog 178 = some (some 12, 3)) :=
  ⟨ty144, ty145, ty146, ty147, ty148, ty149, ty150, ty151, ty152, ty153, ty154, ty155, ty156, ty157, ty158, ty159⟩
theorem tyg10 :
  (tBuild Tryz.prog 178 = some (.agg #[.int .i64 0, .int .i64 0, .int .i64 0, .int .i64 0, .int .i64 0, .int .i64 0, .int .i64 0, .int .i64 0, .int .i64 0, .int .i64 0, .int .i64 0, .int .i64 0], fun i => some (i * 1, 1))) ∧
  (tAgg Tryz.prog 196 = some true) ∧
  (tSize Tryz.prog 196 = some 12) ∧
  (tZero Tryz.prog 196 = some (.agg #[.int .i64 0, .int .i64 0, .int .i64 0, .int .i64 0, .int .i64 0, .int .i64 0, .int .i64 0, .int .i64 0, .int .i64 0, .int .i64 0, .int .i64 0, .int .i64 0])) ∧
  (tBytes Tryz.prog 196 = some 96) ∧
  (tElem Tryz.prog 196 = some (some 12, 3)) ∧
  (tBuild Tryz.prog 196 = some (.agg #[.int .i64 0, .int .i64 0, .int .i64 0, .int .i64 0, .int .i64 0, .int .i64 0, .int .i64 0, .int .i64 0, .int .i64 0, .int .i64 0, .int .i64 0, .int .i64 0], fun i => some (i * 1, 1))) ∧
  (tAgg Tryz.prog 198 = some false) ∧
  (tSize Tryz.prog 198 = some 1) ∧
  (tZero Tryz.prog 198 = some (.pointer none)) ∧
  (tBytes Tryz.prog 198 = some 8) ∧
  (tAgg Tryz.prog 201 = some false) ∧
  (tSize Tryz.prog 201 = some 1) ∧
  (tZero Tryz.prog 201 = some (.pointer none)) ∧
  (tBytes Tryz.prog 201 = some 8) ∧
  (tAgg Tryz.prog 211 = some false) :=
  ⟨ty160, ty161, ty162, ty163, ty164, ty165, ty166, ty167, ty168, ty169, ty170, ty171, ty172, ty173, ty174, ty175⟩
theorem tyg11 :
  (tSize Tryz.prog 211 = some 1) ∧
  (tZero Tryz.prog 211 = some (.pointer none)) ∧
  (tBytes Tryz.prog 211 = some 8) ∧
  (tAgg Tryz.prog 212 = some false) ∧
  (tSize Tryz.prog 212 = some 1) ∧
  (tZero Tryz.prog 212 = some (.map none)) ∧
  (tBytes Tryz.prog 212 = some 8) ∧
  (tMap Tryz.prog 212 = some (3, 3)) ∧
  (tAgg Tryz.prog 227 = some false) ∧
  (tSize Tryz.prog 227 = some 1) ∧
  (tZero Tryz.prog 227 = some (.pointer none)) ∧
  (tBytes Tryz.prog 227 = some 8) :=
  ⟨ty176, ty177, ty178, ty179, ty180, ty181, ty182, ty183, ty184, ty185, ty186, ty187⟩
theorem ty :
  ((tAgg Tryz.prog 2 = some false) ∧ (tSize Tryz.prog 2 = some 1) ∧ (tZero Tryz.prog 2 = some (.int .i64 0)) ∧ (tBytes Tryz.prog 2 = some 8) ∧ (Tryz.prog.underlying 2 = some (.int .i64)) ∧ (tAgg Tryz.prog 3 = some false) ∧ (tSize Tryz.prog 3 = some 1) ∧ (tZero Tryz.prog 3 = some (.int .i64 0)) ∧ (tBytes Tryz.prog 3 = some 8) ∧ (Tryz.prog.underlying 3 = some (.int .i64)) ∧ (tAgg Tryz.prog 4 = some false) ∧ (tSize Tryz.prog 4 = some 1) ∧ (tZero Tryz.prog 4 = some (.bool false)) ∧ (tBytes Tryz.prog 4 = some 1) ∧ (Tryz.prog.underlying 4 = some .bool) ∧ (tAgg Tryz.prog 5 = some false)) ∧
  ((tSize Tryz.prog 5 = some 1) ∧ (tZero Tryz.prog 5 = some (.int .u8 0)) ∧ (tBytes Tryz.prog 5 = some 1) ∧ (Tryz.prog.underlying 5 = some (.int .u8)) ∧ (tAgg Tryz.prog 9 = some false) ∧ (tSize Tryz.prog 9 = some 1) ∧ (tZero Tryz.prog 9 = some (.string ByteArray.empty)) ∧ (tBytes Tryz.prog 9 = some 16) ∧ (tAgg Tryz.prog 21 = some false) ∧ (tSize Tryz.prog 21 = some 1) ∧ (tZero Tryz.prog 21 = some (.int .i32 0)) ∧ (tBytes Tryz.prog 21 = some 4) ∧ (Tryz.prog.underlying 21 = some (.int .i32)) ∧ (tAgg Tryz.prog 22 = some false) ∧ (tSize Tryz.prog 22 = some 1) ∧ (tZero Tryz.prog 22 = some (.slice none 0 0))) ∧
  ((tBytes Tryz.prog 22 = some 24) ∧ (tElem Tryz.prog 22 = some (none, 76)) ∧ (tAgg Tryz.prog 24 = some true) ∧ (tSize Tryz.prog 24 = some 2) ∧ (tZero Tryz.prog 24 = some (.agg #[.int .i64 0, .slice none 0 0])) ∧ (tBytes Tryz.prog 24 = some 32) ∧ (tField Tryz.prog 24 0 = some (0, 3)) ∧ (tField Tryz.prog 24 1 = some (1, 22)) ∧ (tBuild Tryz.prog 24 = some (.agg #[.int .i64 0, .slice none 0 0], fun i => (#[(0, 1), (1, 1)] : Array (Nat × Nat))[i]?)) ∧ (tAgg Tryz.prog 25 = some false) ∧ (tSize Tryz.prog 25 = some 1) ∧ (tZero Tryz.prog 25 = some (.slice none 0 0)) ∧ (tBytes Tryz.prog 25 = some 24) ∧ (tElem Tryz.prog 25 = some (none, 40)) ∧ (tAgg Tryz.prog 27 = some true) ∧ (tSize Tryz.prog 27 = some 3)) ∧
  ((tZero Tryz.prog 27 = some (.agg #[.int .i64 0, .slice none 0 0, .slice none 0 0])) ∧ (tBytes Tryz.prog 27 = some 56) ∧ (tField Tryz.prog 27 0 = some (0, 24)) ∧ (tField Tryz.prog 27 1 = some (2, 25)) ∧ (tBuild Tryz.prog 27 = some (.agg #[.int .i64 0, .slice none 0 0, .slice none 0 0], fun i => (#[(0, 2), (2, 1)] : Array (Nat × Nat))[i]?)) ∧ (tAgg Tryz.prog 30 = some false) ∧ (tSize Tryz.prog 30 = some 1) ∧ (tZero Tryz.prog 30 = some (.int .i64 0)) ∧ (tBytes Tryz.prog 30 = some 8) ∧ (Tryz.prog.underlying 30 = some (.int .i64)) ∧ (tAgg Tryz.prog 39 = some false) ∧ (tSize Tryz.prog 39 = some 1) ∧ (tZero Tryz.prog 39 = some (.map none)) ∧ (tBytes Tryz.prog 39 = some 8) ∧ (tMap Tryz.prog 39 = some (3, 4)) ∧ (tAgg Tryz.prog 40 = some false)) ∧
  ((tSize Tryz.prog 40 = some 1) ∧ (tZero Tryz.prog 40 = some (.slice none 0 0)) ∧ (tBytes Tryz.prog 40 = some 24) ∧ (tElem Tryz.prog 40 = some (none, 3)) ∧ (tAgg Tryz.prog 44 = some false) ∧ (tSize Tryz.prog 44 = some 1) ∧ (tZero Tryz.prog 44 = some (.slice none 0 0)) ∧ (tBytes Tryz.prog 44 = some 24) ∧ (tElem Tryz.prog 44 = some (none, 4)) ∧ (tAgg Tryz.prog 59 = some true) ∧ (tSize Tryz.prog 59 = some 2) ∧ (tZero Tryz.prog 59 = some (.agg #[.slice none 0 0, .slice none 0 0])) ∧ (tBytes Tryz.prog 59 = some 48) ∧ (tElem Tryz.prog 59 = some (some 2, 40)) ∧ (tBuild Tryz.prog 59 = some (.agg #[.slice none 0 0, .slice none 0 0], fun i => some (i * 1, 1))) ∧ (tAgg Tryz.prog 60 = some false)) ∧
  ((tSize Tryz.prog 60 = some 1) ∧ (tZero Tryz.prog 60 = some (.slice none 0 0)) ∧ (tBytes Tryz.prog 60 = some 24) ∧ (tElem Tryz.prog 60 = some (none, 25)) ∧ (tAgg Tryz.prog 76 = some true) ∧ (tSize Tryz.prog 76 = some 3) ∧ (tZero Tryz.prog 76 = some (.agg #[.int .i64 0, .int .i64 0, .int .i64 0])) ∧ (tBytes Tryz.prog 76 = some 24) ∧ (tField Tryz.prog 76 0 = some (0, 3)) ∧ (tField Tryz.prog 76 1 = some (1, 3)) ∧ (tField Tryz.prog 76 2 = some (2, 3)) ∧ (tBuild Tryz.prog 76 = some (.agg #[.int .i64 0, .int .i64 0, .int .i64 0], fun i => (#[(0, 1), (1, 1), (2, 1)] : Array (Nat × Nat))[i]?)) ∧ (tAgg Tryz.prog 78 = some false) ∧ (tSize Tryz.prog 78 = some 1) ∧ (tZero Tryz.prog 78 = some (.slice none 0 0)) ∧ (tBytes Tryz.prog 78 = some 24)) ∧
  ((tElem Tryz.prog 78 = some (none, 86)) ∧ (tAgg Tryz.prog 86 = some true) ∧ (tSize Tryz.prog 86 = some 2) ∧ (tZero Tryz.prog 86 = some (.agg #[.int .i64 0, .int .i64 0])) ∧ (tBytes Tryz.prog 86 = some 16) ∧ (tElem Tryz.prog 86 = some (some 2, 3)) ∧ (tBuild Tryz.prog 86 = some (.agg #[.int .i64 0, .int .i64 0], fun i => some (i * 1, 1))) ∧ (tAgg Tryz.prog 105 = some false) ∧ (tSize Tryz.prog 105 = some 1) ∧ (tZero Tryz.prog 105 = some (.int .u64 0)) ∧ (tBytes Tryz.prog 105 = some 8) ∧ (Tryz.prog.underlying 105 = some (.int .u64)) ∧ (tAgg Tryz.prog 117 = some false) ∧ (tSize Tryz.prog 117 = some 1) ∧ (tZero Tryz.prog 117 = some (.map none)) ∧ (tBytes Tryz.prog 117 = some 8)) ∧
  ((tMap Tryz.prog 117 = some (121, 3)) ∧ (tAgg Tryz.prog 118 = some false) ∧ (tSize Tryz.prog 118 = some 1) ∧ (tZero Tryz.prog 118 = some (.map none)) ∧ (tBytes Tryz.prog 118 = some 8) ∧ (tMap Tryz.prog 118 = some (121, 3)) ∧ (tAgg Tryz.prog 121 = some true) ∧ (tSize Tryz.prog 121 = some 2) ∧ (tZero Tryz.prog 121 = some (.agg #[.int .i64 0, .int .i64 0])) ∧ (tBytes Tryz.prog 121 = some 16) ∧ (tField Tryz.prog 121 0 = some (0, 3)) ∧ (tField Tryz.prog 121 1 = some (1, 3)) ∧ (tBuild Tryz.prog 121 = some (.agg #[.int .i64 0, .int .i64 0], fun i => (#[(0, 1), (1, 1)] : Array (Nat × Nat))[i]?)) ∧ (tAgg Tryz.prog 135 = some false) ∧ (tSize Tryz.prog 135 = some 1) ∧ (tZero Tryz.prog 135 = some (.int .i64 0))) ∧
  ((tBytes Tryz.prog 135 = some 8) ∧ (Tryz.prog.underlying 135 = some (.int .i64)) ∧ (tAgg Tryz.prog 143 = some false) ∧ (tSize Tryz.prog 143 = some 1) ∧ (tZero Tryz.prog 143 = some (.int .u32 0)) ∧ (tBytes Tryz.prog 143 = some 4) ∧ (Tryz.prog.underlying 143 = some (.int .u32)) ∧ (tAgg Tryz.prog 145 = some false) ∧ (tSize Tryz.prog 145 = some 1) ∧ (tZero Tryz.prog 145 = some (.int .u64 0)) ∧ (tBytes Tryz.prog 145 = some 8) ∧ (Tryz.prog.underlying 145 = some (.int .u64)) ∧ (tAgg Tryz.prog 169 = some false) ∧ (tSize Tryz.prog 169 = some 1) ∧ (tZero Tryz.prog 169 = some (.int .u64 0)) ∧ (tBytes Tryz.prog 169 = some 8)) ∧
  ((Tryz.prog.underlying 169 = some (.int .u64)) ∧ (tAgg Tryz.prog 173 = some false) ∧ (tSize Tryz.prog 173 = some 1) ∧ (tZero Tryz.prog 173 = some (.pointer none)) ∧ (tBytes Tryz.prog 173 = some 8) ∧ (tAgg Tryz.prog 177 = some true) ∧ (tSize Tryz.prog 177 = some 12) ∧ (tZero Tryz.prog 177 = some (.agg #[.int .i64 0, .int .i64 0, .int .i64 0, .int .i64 0, .int .i64 0, .int .i64 0, .int .i64 0, .int .i64 0, .int .i64 0, .int .i64 0, .int .i64 0, .int .i64 0])) ∧ (tBytes Tryz.prog 177 = some 96) ∧ (tElem Tryz.prog 177 = some (some 12, 3)) ∧ (tBuild Tryz.prog 177 = some (.agg #[.int .i64 0, .int .i64 0, .int .i64 0, .int .i64 0, .int .i64 0, .int .i64 0, .int .i64 0, .int .i64 0, .int .i64 0, .int .i64 0, .int .i64 0, .int .i64 0], fun i => some (i * 1, 1))) ∧ (tAgg Tryz.prog 178 = some true) ∧ (tSize Tryz.prog 178 = some 12) ∧ (tZero Tryz.prog 178 = some (.agg #[.int .i64 0, .int .i64 0, .int .i64 0, .int .i64 0, .int .i64 0, .int .i64 0, .int .i64 0, .int .i64 0, .int .i64 0, .int .i64 0, .int .i64 0, .int .i64 0])) ∧ (tBytes Tryz.prog 178 = some 96) ∧ (tElem Tryz.prog 178 = some (some 12, 3))) ∧
  ((tBuild Tryz.prog 178 = some (.agg #[.int .i64 0, .int .i64 0, .int .i64 0, .int .i64 0, .int .i64 0, .int .i64 0, .int .i64 0, .int .i64 0, .int .i64 0, .int .i64 0, .int .i64 0, .int .i64 0], fun i => some (i * 1, 1))) ∧ (tAgg Tryz.prog 196 = some true) ∧ (tSize Tryz.prog 196 = some 12) ∧ (tZero Tryz.prog 196 = some (.agg #[.int .i64 0, .int .i64 0, .int .i64 0, .int .i64 0, .int .i64 0, .int .i64 0, .int .i64 0, .int .i64 0, .int .i64 0, .int .i64 0, .int .i64 0, .int .i64 0])) ∧ (tBytes Tryz.prog 196 = some 96) ∧ (tElem Tryz.prog 196 = some (some 12, 3)) ∧ (tBuild Tryz.prog 196 = some (.agg #[.int .i64 0, .int .i64 0, .int .i64 0, .int .i64 0, .int .i64 0, .int .i64 0, .int .i64 0, .int .i64 0, .int .i64 0, .int .i64 0, .int .i64 0, .int .i64 0], fun i => some (i * 1, 1))) ∧ (tAgg Tryz.prog 198 = some false) ∧ (tSize Tryz.prog 198 = some 1) ∧ (tZero Tryz.prog 198 = some (.pointer none)) ∧ (tBytes Tryz.prog 198 = some 8) ∧ (tAgg Tryz.prog 201 = some false) ∧ (tSize Tryz.prog 201 = some 1) ∧ (tZero Tryz.prog 201 = some (.pointer none)) ∧ (tBytes Tryz.prog 201 = some 8) ∧ (tAgg Tryz.prog 211 = some false)) ∧
  ((tSize Tryz.prog 211 = some 1) ∧ (tZero Tryz.prog 211 = some (.pointer none)) ∧ (tBytes Tryz.prog 211 = some 8) ∧ (tAgg Tryz.prog 212 = some false) ∧ (tSize Tryz.prog 212 = some 1) ∧ (tZero Tryz.prog 212 = some (.map none)) ∧ (tBytes Tryz.prog 212 = some 8) ∧ (tMap Tryz.prog 212 = some (3, 3)) ∧ (tAgg Tryz.prog 227 = some false) ∧ (tSize Tryz.prog 227 = some 1) ∧ (tZero Tryz.prog 227 = some (.pointer none)) ∧ (tBytes Tryz.prog 227 = some 8)) :=
  ⟨tyg0, tyg1, tyg2, tyg3, tyg4, tyg5, tyg6, tyg7, tyg8, tyg9, tyg10, tyg11⟩
attribute [go_sem] ty
end Go.Proofs.YtfkegnhpihoncaaGreat
