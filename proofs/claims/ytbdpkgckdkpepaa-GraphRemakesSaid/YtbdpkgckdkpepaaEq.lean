/- A part of the proof: contracts of functions of the program, or plain lemmas. -/
import Derived.Test.YtbdpkgckdkpepaaFacts
import Derived.Test.YtbdpkgckdkpepaaLayerB
set_option linter.all false
namespace Go.Proofs.Ytbdpkgckdkpepaa
open Go.Sp Go.RowKit
set_option maxRecDepth 100000
theorem int3 (x y : Int) (w : World) : (Op.equalIn 9999 3 (.int .i64 x) (.int .i64 y)).run Try.prog w = .ok (x == y) w :=
  run_equalIn_int w 9998 3 _ _ x y (by simp only [ty] : Try.prog.underlying 3 = some (.int .i64))
theorem eq71a (a b c a' b' c' : Int) (w : World) : (Op.equalIn 10000 71 (.agg #[.int .i64 a, .int .i64 b, .int .i64 c]) (.agg #[.int .i64 a', .int .i64 b', .int .i64 c'])).run Try.prog w = .ok (decide ([a,b,c] = [a',b',c'])) w := by
  rw [run_equalIn_agg w 9999 71 _ _ (by kernel_rfl) (by kernel_rfl)]
  have hA : tAgg Try.prog 3 = some false := by simp only [ty]
  simp [Program.fieldsOf, Try.underlying71, Op.eqFields, part, run_tAgg hA, Sem.run_bind, int3]
  by_cases h1 : a = a' <;> by_cases h2 : b = b' <;> by_cases h3 : c = c' <;> simp [*]
theorem eqInts71 : EqInts Try.prog 71 3 := by
  refine ⟨fun xs ys w x y _ _ => ⟨run_eqGuard_agg w _ _ x y _ _ Try.eqGuardType71, run_eqGuard_agg w _ _ x y _ _ Try.eqGuardType71⟩, fun xs ys w h1 h2 => ?_⟩
  match xs, ys, h1, h2 with
  | [a, b, c], [a', b', c'], _, _ => exact ⟨by rw [run_eql_struct]; simp only [List.map_cons, List.map_nil]; rw [eq71a]; rfl, by rw [run_neq_struct]; simp only [List.map_cons, List.map_nil]; rw [eq71a]; rfl⟩
end Go.Proofs.Ytbdpkgckdkpepaa
