/- A part of the proof: contracts of functions of the program, and plain lemmas. -/
import Derived.Test.YtfkegnhpihoncaaGreatPart43
import Derived.Test.YtfkegnhpihoncaaGreatPart40
import Derived.Test.YtfkegnhpihoncaaGreatPart41
import Derived.Test.YtfkegnhpihoncaaGreatLayerC
set_option linter.all false
namespace Go.Proofs.YtfkegnhpihoncaaGreat
open Go.Sp
set_option linter.unusedSimpArgs false
set_option linter.unusedVariables false
set_option maxHeartbeats 4000000
set_option maxRecDepth 100000
theorem rsm_mir {r : R} (hs : RSm r) : RSm ⟨r.n, r.es, mirL r.ar⟩ := by
  refine ⟨hs.es, by simp only [mirL_len]; exact hs.ar, fun l hm => ?_⟩
  obtain ⟨m, hm2, rfl⟩ := List.mem_map.1 hm
  rw [turnL_len, List.length_reverse]
  exact hs.l m hm2
end Go.Proofs.YtfkegnhpihoncaaGreat
