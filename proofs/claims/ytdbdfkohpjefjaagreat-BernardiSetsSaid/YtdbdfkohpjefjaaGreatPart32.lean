/- A part of the proof. -/
import Derived.Test.YtdbdfkohpjefjaaGreatPart25
import Derived.Test.YtdbdfkohpjefjaaGreatPart26
import Derived.Test.YtdbdfkohpjefjaaGreatPart27
import Derived.Test.YtdbdfkohpjefjaaGreatPart28
set_option linter.all false
set_option maxHeartbeats 4000000
set_option maxRecDepth 100000
namespace Go.Proofs.YtdbdfkohpjefjaaGreat
open Go.Sp
def mB (l:List Nat):List (MKey×MV):=l.map fun x:Nat=>(.int (x:Int),.c (.bool true))
theorem B84: ∀(l:List Nat) (x:Nat),x∉l->mIdx (mB l) (.int x)=none
 | [],x,_=>rfl
 | y::l,x,h=>by
  have h1: ¬y=x:=fun e=>h (by simp [e]);have h2:=B84 l x (fun hm=>h (by simp [hm]));unfold mIdx at h2 ⊢;unfold mB at h2 ⊢;simp only [Xy,Jk,h2,Option.map_none];rw [if_neg];intro e;have:(MKey.int (y:Int))= .int x:=by simpa using e
  injection this with e;exact h1 (by omega)
theorem C4j {l:List Nat} {x:Nat} (h:x∉l) (z:MV):A61 (mB l) (.int x) z=z:=by
 unfold A61; rw [B84 l x h]; rfl
theorem C4k {l:List Nat} {x:Nat} (h:x∉l):B22 (mB l) (.int x) (.c (.bool true))=mB (l++[x]):=by
 unfold B22; rw [B84 l x h]; simp [mB]
theorem C2I {l:List Nat}: ∀e,e∈mB l->KShape.ok .int e.1=true:=fun e h=>by
 obtain ⟨x,_,rfl⟩:=Xq.1 h;rfl
def A2e (g:G) (a b:Int):Bool:=decide (g.es.length≤40)&&(decide (checkG g≠0)||(decide (g.n≤a)&&decide (((endsL g.es).length:Int)≤b)))
theorem C0Q (g:G) (a b:Int):ACall Tryz.prog 97 [tG g,A0m a,A0m b] (A0v (A2e g a b)):=by
 refine ACall.of_body Tryz.func97 rfl (by kernel_rfl) ?_;simp only [entry,Tryz.ntmps97,tG,A0m];refine zU ?_;by_cases hl:g.es.length≤40
 ·by_cases hc:checkG g=0
  ·have hs:=B5p (g:=g) (by omega) hc;have e:A2e g a b=(decide (g.n≤a)&&decide (((endsL g.es).length:Int)≤b)):=by unfold A2e; rw [decide_eq_true hl,hc,Jy,show decide ((0:Int)≠0)=false by decide,JV]
   rw [e];by_cases hn:g.n≤a
   ·rw [decide_eq_true hn,Jy]
    repeat' (first|((first|(refine zT ?_;intro K' hK')|(refine zG ?_ ?_<;>(try refine zH ?_)<;>intro hguard<;>(try exact zX)<;>try intro K' hK'))<;>((try simp+contextual only [go_sem,A01,hc,hn]);(repeat' first|(with_reducible refine hK' _ _ ?_;clear hK' K')|((with_reducible first|refine zL (c:=A46 g (by omega)) (q:=?_)|refine zK (A70 g hs.s hs.es hs.m) ?_);try simp+contextual only [go_sem,A01,hc,hn])|exact zY|with_reducible refine Qw7 ?_ ?_|(with_reducible intro hpath;try exact zP)|(refine hK' _ _ ?_;clear hK' K')|fail);try refine zS ?_))|(refine zE ?_;refine hK _ _ ?_;clear hK K)|(refine zN ?_;try refine zS ?_)|refine zA ?_|(refine zB ?_;intro K hK)|(refine zC ?_ ?_<;>(try refine zH ?_)<;>intro hcond<;>try exact zX)|fail)
    simp [A0z,A0y,Blk.cells,ty,Tryz.results97,A0t,A0u,toT,A0d,A0b,A0c,A0a,A0v]
   ·rw [decide_eq_false hn,Qq3]
    repeat' (first|((first|(refine zT ?_;intro K' hK')|(refine zG ?_ ?_<;>(try refine zH ?_)<;>intro hguard<;>(try exact zX)<;>try intro K' hK'))<;>((try simp+contextual only [go_sem,A01,hc,hn]);(repeat' first|(with_reducible refine hK' _ _ ?_;clear hK' K')|((with_reducible first|refine zL (c:=A46 g (by omega)) (q:=?_)|refine zK (A70 g hs.s hs.es hs.m) ?_);try simp+contextual only [go_sem,A01,hc,hn])|exact zY|with_reducible refine Qw7 ?_ ?_|(with_reducible intro hpath;try exact zP)|(refine hK' _ _ ?_;clear hK' K')|fail);try refine zS ?_))|(refine zE ?_;refine hK _ _ ?_;clear hK K)|(refine zN ?_;try refine zS ?_)|refine zA ?_|(refine zB ?_;intro K hK)|(refine zC ?_ ?_<;>(try refine zH ?_)<;>intro hcond<;>try exact zX)|fail)
    simp [A0z,A0y,Blk.cells,ty,Tryz.results97,A0t,A0u,toT,A0d,A0b,A0c,A0a,A0v]
  ·
   repeat' (first|((first|(refine zT ?_;intro K' hK')|(refine zG ?_ ?_<;>(try refine zH ?_)<;>intro hguard<;>(try exact zX)<;>try intro K' hK'))<;>((try simp+contextual only [go_sem,A01]);(repeat' first|(with_reducible refine hK' _ _ ?_;clear hK' K')|(with_reducible refine zL (c:=A46 g (by omega)) (q:=?_);try simp+contextual only [go_sem,A01])|exact zY|with_reducible refine Qw7 ?_ ?_|(with_reducible intro hpath;try exact zP)|(refine hK' _ _ ?_;clear hK' K')|fail);try refine zS ?_))|(refine zE ?_;refine hK _ _ ?_;clear hK K)|(refine zN ?_;try refine zS ?_)|refine zA ?_|(refine zB ?_;intro K hK)|(refine zC ?_ ?_<;>(try refine zH ?_)<;>intro hcond<;>try exact zX)|fail)
   have e:A2e g a b=true:=by unfold A2e; rw [decide_eq_true hl,decide_eq_true (show checkG g≠0 from hc)]; rfl
   simp [A0z,A0y,Blk.cells,ty,Tryz.results97,A0t,A0u,toT,A0d,A0b,A0c,A0a,A0v,e]
 ·
  refine zR (zc @A01 Qw8) Qw8 Qw8 ?_;have e:A2e g a b=false:=by unfold A2e; rw [decide_eq_false hl]; rfl
  simp [A0z,A0y,Blk.cells,ty,Tryz.results97,A0t,A0u,toT,A0d,A0b,A0c,A0a,A0v,e]
def C5n (r:R):Bool:=A2e r.g 6 9&&(decide (r.ar.length≤20)&&r.ar.all fun l=>decide (l.length≤40))
theorem C4l {r:R} (h:C5n r=true):RSm r:=by
 unfold C5n A2e at h;simp only [Zq,decide_eq_true_eq,Zv] at h;exact ⟨h.1.1,by omega,fun l hl=>by have:=h.2.2 l hl; omega⟩
theorem C2J {g:G} (hl:g.es.length≤40) (hj:A0s g=0):RSm ⟨g.n,g.es,A1g (endsL g.es) g.n.toNat (2*(endsL g.es).length)⟩:=by
 have hc:checkG g=0:=by
  unfold A0s at hj;by_cases h:checkG g=0
  ·exact h
  ·rw [if_pos h] at hj; exact absurd hj h
 have h12:=(A0j.1 hc).1;have hlen:=A26 hl hc;refine ⟨hl,by simp only [A0G]; omega,fun l hm=> ?_⟩;obtain ⟨v,_,rfl⟩:=Xq.1 hm;have:=B00 (endsL g.es) (v:Int) (2*(endsL g.es).length);omega
end Go.Proofs.YtdbdfkohpjefjaaGreat
