/- A part of the proof. -/
import Derived.Test.YtdhfgihnoimoaaaLayerC
import Derived.Test.YtdhfgihnoimoaaaPart42
set_option linter.all false
set_option maxHeartbeats 4000000
set_option maxRecDepth 100000
namespace Go.Proofs.Ytdhfgihnoimoaaa
open Go.Sp
theorem B5U {l:List Int} {n:Nat} (h:l.length=n):sumD l n=B5w l:=by
 unfold sumD; rw [←h,A46]
def A2A (p:Nat→Bool):Nat→List Int
 | 0=>[]
 | k+1=>if p k=true then A2A p k++[(k:Int)] else A2A p k
theorem A5Z (p:Nat→Bool): ∀k,(A2A p k).length≤k
 | 0=>Nat.le_refl _
 | k+1=>by have:=A5Z p k; unfold A2A; split<;>simp<;>omega
theorem A9L {p:Nat→Bool} {k:Nat} (h:p k=true):A2A p (k+1)=A2A p k++[(k:Int)]:=by
 conv=>lhs; unfold A2A
 rw [if_pos h]
theorem A9M {p:Nat→Bool} {k:Nat} (h:p k=false):A2A p (k+1)=A2A p k:=by
 conv=>lhs; unfold A2A
 rw [if_neg (by rw [h]; simp)]
noncomputable def wvP (n:Nat) (es:List E) (v:Nat):Bool:=decide (wgt n es v>0)
noncomputable def A6N (n:Nat) (es:List E):List Int×Int:=if A0D ⟨(n:Int),es⟩≠0 then ([],A0D ⟨(n:Int),es⟩) else if 6<sizeE es-n+1 then ([],12) else (A2A (wvP n es) n,0)
theorem B9x {n k:Nat} {es:List E} (hj:A0D ⟨(n:Int),es⟩=0) (hk:k<n):A8O ⟨(n:Int),es⟩ (k:Int)=0:=by
 unfold A8O
 rw [if_neg (by omega),if_pos]
 simp only; omega
theorem B7o {n:Nat} {es:List E} (hl:es.length≤40) {d:List Int} (hdl:d.length<2^40) (hO:A3t ⟨(n:Int),es⟩ d=0→Gok n es∧n≤6∧sizeE es≤1000∧d.length=n∧bndL 500 d∧sumD d n≤30):
  ACall Try.prog 49 [tG ⟨(n:Int),es⟩,A0m d] (.tup [A0g (if A3t ⟨(n:Int),es⟩ d≠0 then 0 else rkD n (mulE es) fun v=>d.getD v 0),A0g (A3t ⟨(n:Int),es⟩ d)]):=by
 have hG:=A3X ⟨(n:Int),es⟩ d hl hdl
 by_cases he:A3t ⟨(n:Int),es⟩ d=0
 ·obtain ⟨q1,q2,q3,q4,q5,q6⟩:=hO he
  have hOf:=B9w q1 q2 q3 q4 q5 q6
  rw [he] at hG ⊢
  rw [if_neg (by omega)]
  generalize rkD n (mulE es) (fun v=>d.getD v 0)=rk at*
  refine ACall.of_body Try.func49 rfl (by kernel_rfl) ?_
  simp only [entry,Try.ntmps49,tG,A0m]
  refine zU ?_
  refine zR trivial (zc hG (zc hOf trivial)) trivial ?_
  simp [A0E,A0C,Blk.cells,ty,Try.results49,A0y,A05,toT,A0e,A0c,A0d,A0a,A0g]
 ·rw [if_pos he]
  clear hO
  generalize A3t ⟨(n:Int),es⟩ d=er at*
  refine ACall.of_body Try.func49 rfl (by kernel_rfl) ?_
  simp only [entry,Try.ntmps49,tG,A0m]
  refine zU ?_
  refine zR (zc @he trivial) (zc hG trivial) trivial ?_
  simp [A0E,A0C,Blk.cells,ty,Try.results49,A0y,A05,toT,A0e,A0c,A0d,A0a,A0g]
end Go.Proofs.Ytdhfgihnoimoaaa
