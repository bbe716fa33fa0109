/- A part of the proof. -/
import Derived.Test.YtdhfgihnoimoaaaPart23
import Derived.Test.YtdhfgihnoimoaaaPart04
import Derived.Test.YtdhfgihnoimoaaaLayerD
import Derived.Test.YtdhfgihnoimoaaaPart24
import Derived.Test.YtdhfgihnoimoaaaPart06
import Derived.Test.YtdhfgihnoimoaaaPart22
import Derived.Test.YtdhfgihnoimoaaaPart07
import Derived.Test.YtdhfgihnoimoaaaLayerC
import Derived.Test.YtdhfgihnoimoaaaPart13
import Derived.Test.YtdhfgihnoimoaaaPart16
import Derived.Test.YtdhfgihnoimoaaaPart20
set_option linter.all false
set_option maxHeartbeats 4000000
set_option maxRecDepth 100000
namespace Go.Proofs.Ytdhfgihnoimoaaa
open Go.Sp
set_option maxHeartbeats 1000000
@[simp] theorem B9C (L:List (Nat×Nat)):(chJ (ATf L)).take 12=chJ (ATf L):=A5F (by rw [B8t]; exact Nat.le_refl _)
set_option maxHeartbeats 1000000
structure NG (g:G) (n:Nat) (L:List (Nat×Nat)):Prop where
 hn:g.n=n
 h1:1≤n
 h12:n≤12
 ends:endsL g.es=LI L
 lt: ∀p,p∈L→p.1<n∧p.2<n
 len:L.length≤2000
theorem A1T {R:List Bool} {i:Nat} (h:i<R.length):R[i]? =some (R.getD i false):=by
 rw [List.getD_eq_getElem?_getD,List.getElem?_eq_getElem h]; rfl
theorem B9h (n:Nat) (R:List Bool) (hR:R.length=n) {H:List Blk} (h5:H[5]? =some (.box (bC R))) (h6:H[6]? =some (.box [.ref 5 1 0 n n])) (u:Nat) (hu:u<n):
  ACallH Try.prog 123 H [.c (.int .i64 (u:Int)),.c (.ptr 6 0)] H (.c (.bool (R.getD u false))):=by
 have hg:=A1T (R:=R) (i:=u) (by omega)
 have hb:=A6G hg
 generalize R.getD u false=b at*
 have huI:(u:Int)<(n:Int):=by omega
 refine ACallH.of_body Try.func123 rfl (by kernel_rfl) ?_
 simp only [entry,Try.ntmps123,List.length_cons,List.length_nil,Nat.reduceAdd,Nat.reduceSub,List.replicate_succ,List.replicate_zero,List.cons_append,List.nil_append]
 refine zR (zc @h6 (zc @h5 (zc @hb (zc @huI (zc @A1z (zc @hR (zc @Nat.zero_add trivial))))))) trivial trivial ?_
 simp [A2W,A1M,A0y,A1L,Try.results123]
theorem B9i (n:Nat) (R:List Bool) (hR:R.length=n) {H:List Blk} (h5:H[5]? =some (.box (bC R))) (h6:H[6]? =some (.box [.ref 5 1 0 n n])) (u:Nat) (hu:u<n):
  ACallH Try.prog 109 H [.c (.int .i64 (u:Int)),.c (.ptr 6 0)] H (.c (.bool (R.getD u false))):=by
 have hg:=A1T (R:=R) (i:=u) (by omega)
 have hb:=A6G hg
 generalize R.getD u false=b at*
 have huI:(u:Int)<(n:Int):=by omega
 refine ACallH.of_body Try.func109 rfl (by kernel_rfl) ?_
 simp only [entry,Try.ntmps109,List.length_cons,List.length_nil,Nat.reduceAdd,Nat.reduceSub,List.replicate_succ,List.replicate_zero,List.cons_append,List.nil_append]
 refine zR (zc @h6 (zc @h5 (zc @hb (zc @huI (zc @A1z (zc @hR (zc @Nat.zero_add trivial))))))) trivial trivial ?_
 simp [A2W,A1M,A0y,A1L,Try.results109]
theorem B9j (n:Nat) (R:List Bool) (hR:R.length=n) {H:List Blk} (h6:H[5]? =some (.box [.slice (A1m R) .none])) (u:Nat) (hu:u<n):
  ACallH Try.prog 111 H [.c (.int .i64 (u:Int)),.c (.ptr 5 0)] H (.c (.bool (!R.getD u false))):=by
 have hg:=A1T (R:=R) (i:=u) (by omega)
 have hb:=A4z hg
 generalize R.getD u false=b at*
 have huI:(u:Int)<(n:Int):=by omega
 refine ACallH.of_body Try.func111 rfl (by kernel_rfl) ?_
 simp only [entry,Try.ntmps111,List.length_cons,List.length_nil,Nat.reduceAdd,Nat.reduceSub,List.replicate_succ,List.replicate_zero,List.cons_append,List.nil_append]
 refine zR (zc @h6 (zc @hb (zc @huI (zc @A0V (zc @hR (zc @Nat.zero_add trivial)))))) trivial trivial ?_
 simp [A2W,A1M,A0y,A1L,Try.results111]
end Go.Proofs.Ytdhfgihnoimoaaa
