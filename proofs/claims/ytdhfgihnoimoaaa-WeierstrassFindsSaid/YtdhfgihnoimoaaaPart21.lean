/- A part of the proof. -/
import Derived.Test.YtdhfgihnoimoaaaPart13
import Derived.Test.YtdhfgihnoimoaaaPart20
import Derived.Test.YtdhfgihnoimoaaaLayerC
set_option linter.all false
set_option maxHeartbeats 4000000
set_option maxRecDepth 100000
namespace Go.Proofs.Ytdhfgihnoimoaaa
open Go.Sp
theorem clU_ok (n : Nat) (R : List Bool) (hR : R.length = n) {H : List Blk} (h5 : H[5]? = some (.box (bC R))) (h6 : H[6]? = some (.box [.ref 5 1 0 n n])) (u : Nat) (hu : u < n) :
  ACallH Try.prog 123 H [.c (.int .i64 (u : Int)), .c (.ptr 6 0)] H (.c (.bool (R.getD u false))) := by
 have hg := getD_bool (R := R) (i := u) (by omega)
 have hb := bC_get hg
 generalize R.getD u false = b at *
 have huI : (u : Int) < (n : Int) := by omega
 refine ACallH.of_body Try.func123 rfl (by kernel_rfl) ?_
 simp only [entry, Try.ntmps123, List.length_cons, List.length_nil, Nat.reduceAdd, Nat.reduceSub, List.replicate_succ, List.replicate_zero, List.cons_append, List.nil_append]
 refine zR (zc @h6 (zc @h5 (zc @hb (zc @huI (zc @bC_len (zc @hR (zc @Nat.zero_add trivial))))))) trivial trivial ?_
 simp [RetsH, aretH, ares, noTup, Try.results123]
theorem clL_ok (n : Nat) (R : List Bool) (hR : R.length = n) {H : List Blk} (h5 : H[5]? = some (.box (bC R))) (h6 : H[6]? = some (.box [.ref 5 1 0 n n])) (u : Nat) (hu : u < n) :
  ACallH Try.prog 109 H [.c (.int .i64 (u : Int)), .c (.ptr 6 0)] H (.c (.bool (R.getD u false))) := by
 have hg := getD_bool (R := R) (i := u) (by omega)
 have hb := bC_get hg
 generalize R.getD u false = b at *
 have huI : (u : Int) < (n : Int) := by omega
 refine ACallH.of_body Try.func109 rfl (by kernel_rfl) ?_
 simp only [entry, Try.ntmps109, List.length_cons, List.length_nil, Nat.reduceAdd, Nat.reduceSub, List.replicate_succ, List.replicate_zero, List.cons_append, List.nil_append]
 refine zR (zc @h6 (zc @h5 (zc @hb (zc @huI (zc @bC_len (zc @hR (zc @Nat.zero_add trivial))))))) trivial trivial ?_
 simp [RetsH, aretH, ares, noTup, Try.results109]
theorem clS_ok (n : Nat) (R : List Bool) (hR : R.length = n) {H : List Blk} (h6 : H[5]? = some (.box [.slice (bRows R) .none])) (u : Nat) (hu : u < n) :
  ACallH Try.prog 111 H [.c (.int .i64 (u : Int)), .c (.ptr 5 0)] H (.c (.bool (!R.getD u false))) := by
 have hg := getD_bool (R := R) (i := u) (by omega)
 have hb := bRows_get hg
 generalize R.getD u false = b at *
 have huI : (u : Int) < (n : Int) := by omega
 refine ACallH.of_body Try.func111 rfl (by kernel_rfl) ?_
 simp only [entry, Try.ntmps111, List.length_cons, List.length_nil, Nat.reduceAdd, Nat.reduceSub, List.replicate_succ, List.replicate_zero, List.cons_append, List.nil_append]
 refine zR (zc @h6 (zc @hb (zc @huI (zc @bRows_len (zc @hR (zc @Nat.zero_add trivial)))))) trivial trivial ?_
 simp [RetsH, aretH, ares, noTup, Try.results111]
end Go.Proofs.Ytdhfgihnoimoaaa
