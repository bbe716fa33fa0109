/- A part of the proof. -/
import Derived.Test.YtdhfgihnoimoaaaPart12
import Derived.Test.YtdhfgihnoimoaaaPart26
import Derived.Test.YtdhfgihnoimoaaaPart27
import Derived.Test.YtdhfgihnoimoaaaPart04
import Derived.Test.YtdhfgihnoimoaaaPart07
import Derived.Test.YtdhfgihnoimoaaaLayerC
set_option linter.all false
set_option maxHeartbeats 4000000
set_option maxRecDepth 100000
namespace Go.Proofs.Ytdhfgihnoimoaaa
open Go.Sp
def A2C (g:G) (a b:Int):Bool:=decide (g.es.length≤40)&&(decide (checkG g≠0)||(decide (g.n≤a)&&decide (((endsL g.es).length:Int)≤b)))
theorem B6U (g:G) (a b:Int):ACall Try.prog 53 [tG g,A0g a,A0g b] (A09 (A2C g a b)):=by
 refine ACall.of_body Try.func53 rfl (by kernel_rfl) ?_
 simp only [entry,Try.ntmps53,tG,A0g]
 refine zU ?_
 by_cases hl:g.es.length≤40
 ·by_cases hc:checkG g=0
  ·have hs:=B8V (g:=g) (by omega) hc
   have e:A2C g a b=(decide (g.n≤a)&&decide (((endsL g.es).length:Int)≤b)):=by unfold A2C; rw [decide_eq_true hl,hc,Bool.true_and,show decide ((0:Int)≠0)=false by decide,Bool.false_or]
   rw [e]
   by_cases hn:g.n≤a
   ·rw [decide_eq_true hn,Bool.true_and]
    repeat' (first|((first|(refine zT ?_;intro K' hK')|(refine zG ?_ ?_<;>(try refine zH ?_)<;>intro hguard<;>(try exact zX)<;>try intro K' hK'))<;>((try simp+contextual only [go_sem,A06,hc,hn]);(repeat' first|(with_reducible refine hK' _ _ ?_;clear hK' K')|((with_reducible first|refine zL (c:=A5B g (by omega)) (q:=?_)|refine zK (B22 g hs.s hs.es hs.m) ?_);try simp+contextual only [go_sem,A06,hc,hn])|exact zY|with_reducible refine And.intro ?_ ?_|(with_reducible intro hpath;try exact zP)|(refine hK' _ _ ?_;clear hK' K')|fail);try refine zS ?_))|(refine zE ?_;refine hK _ _ ?_;clear hK K)|(refine zN ?_;try refine zS ?_)|refine zA ?_|(refine zB ?_;intro K hK)|(refine zC ?_ ?_<;>(try refine zH ?_)<;>intro hcond<;>try exact zX)|fail)
    simp [A0E,A0C,Blk.cells,ty,Try.results53,A0y,A05,toT,A0e,A0c,A0d,A0a,A09]
   ·rw [decide_eq_false hn,Bool.false_and]
    repeat' (first|((first|(refine zT ?_;intro K' hK')|(refine zG ?_ ?_<;>(try refine zH ?_)<;>intro hguard<;>(try exact zX)<;>try intro K' hK'))<;>((try simp+contextual only [go_sem,A06,hc,hn]);(repeat' first|(with_reducible refine hK' _ _ ?_;clear hK' K')|((with_reducible first|refine zL (c:=A5B g (by omega)) (q:=?_)|refine zK (B22 g hs.s hs.es hs.m) ?_);try simp+contextual only [go_sem,A06,hc,hn])|exact zY|with_reducible refine And.intro ?_ ?_|(with_reducible intro hpath;try exact zP)|(refine hK' _ _ ?_;clear hK' K')|fail);try refine zS ?_))|(refine zE ?_;refine hK _ _ ?_;clear hK K)|(refine zN ?_;try refine zS ?_)|refine zA ?_|(refine zB ?_;intro K hK)|(refine zC ?_ ?_<;>(try refine zH ?_)<;>intro hcond<;>try exact zX)|fail)
    simp [A0E,A0C,Blk.cells,ty,Try.results53,A0y,A05,toT,A0e,A0c,A0d,A0a,A09]
  ·
   repeat' (first|((first|(refine zT ?_;intro K' hK')|(refine zG ?_ ?_<;>(try refine zH ?_)<;>intro hguard<;>(try exact zX)<;>try intro K' hK'))<;>((try simp+contextual only [go_sem,A06]);(repeat' first|(with_reducible refine hK' _ _ ?_;clear hK' K')|(with_reducible refine zL (c:=A5B g (by omega)) (q:=?_);try simp+contextual only [go_sem,A06])|exact zY|with_reducible refine And.intro ?_ ?_|(with_reducible intro hpath;try exact zP)|(refine hK' _ _ ?_;clear hK' K')|fail);try refine zS ?_))|(refine zE ?_;refine hK _ _ ?_;clear hK K)|(refine zN ?_;try refine zS ?_)|refine zA ?_|(refine zB ?_;intro K hK)|(refine zC ?_ ?_<;>(try refine zH ?_)<;>intro hcond<;>try exact zX)|fail)
   have e:A2C g a b=true:=by unfold A2C; rw [decide_eq_true hl,decide_eq_true (show checkG g≠0 from hc)]; rfl
   simp [A0E,A0C,Blk.cells,ty,Try.results53,A0y,A05,toT,A0e,A0c,A0d,A0a,A09,e]
 ·
  refine zR (zc @A06 trivial) trivial trivial ?_
  have e:A2C g a b=false:=by unfold A2C; rw [decide_eq_false hl]; rfl
  simp [A0E,A0C,Blk.cells,ty,Try.results53,A0y,A05,toT,A0e,A0c,A0d,A0a,A09,e]
end Go.Proofs.Ytdhfgihnoimoaaa
