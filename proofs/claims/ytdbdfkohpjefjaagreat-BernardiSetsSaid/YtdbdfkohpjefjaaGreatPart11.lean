/- A part of the proof. -/
import Derived.Test.YtdbdfkohpjefjaaGreatPart07
import Derived.Test.YtdbdfkohpjefjaaGreatRows
import Derived.ShutString
import Derived.ChangeOld
import Derived.Below
import Derived.Test.YtdbdfkohpjefjaaGreatLayerD
set_option linter.all false
set_option maxHeartbeats 4000000
set_option maxRecDepth 100000
namespace Go.Proofs.YtdbdfkohpjefjaaGreat
open Go.Sp
theorem B2W (pre mid post new:List ACell) (h:new.length=mid.length):setMany (pre++mid++post) pre.length new=pre++new++post:=by
 apply XY;intro i;rw [A2f _ _ _ _ (by simp; omega)];by_cases h1:i<pre.length
 ·rw [if_neg (by omega),Zj,Zj,Qk h1,Qk h1]
 ·by_cases h2:i<pre.length+new.length
  ·rw [if_pos ⟨by omega,h2⟩,Zj,QJ (by omega),Qk (by omega)]
  ·rw [if_neg (by omega),QJ (by simp; omega),QJ (l₁:=pre++new) (by simp; omega)];simp [h]
theorem A6H (l:List Int):flatRows (A0o l)=iC l:=by
 unfold flatRows A0o iC
 induction l with
 | nil=>rfl
 | cons x l ih=>simp only [Xy,List.flatten_cons,WY,ih]; rfl
theorem B1I (a b:List Int):iC (a++b)=iC a++iC b:=by simp [iC]
theorem B71 (n:Nat) (x:Int):iC (List.replicate n x)=List.replicate n (.int .i64 x):=by simp [iC]
end Go.Proofs.YtdbdfkohpjefjaaGreat
namespace Go.Proofs.YtdbdfkohpjefjaaGreat
open Go.ChangeShapes Go.WideShapes Go.ChangeAt Go.RowKit Go.Joins Go.Sp
theorem own:ownKnob Tryz.prog.godebug=none:=by kernel_rfl
theorem laidOut:laidOutB Tryz.prog=true:=by kernel_rfl
theorem B72:A5Q Tryz.prog 132 3:=
 A8j Tryz.underlying132 (by kernel_rfl) (fun i f hf=>by
  match i,hf with
  | 0,hf=>obtain rfl:=VY hf; exact ⟨Tryz.underlying3,by kernel_rfl,rfl⟩
  | 1,hf=>obtain rfl:=VY hf; exact ⟨Tryz.underlying3,by kernel_rfl,rfl⟩
  | 2,hf=>obtain rfl:=VY hf; exact ⟨Tryz.underlying3,by kernel_rfl,rfl⟩
  | n+3,hf=>simp at hf)
def toE (r:List Int):E:=⟨r.getD 0 0,r.getD 1 0,r.getD 2 0⟩
theorem C0p {rows:List (List Int)} (h: ∀r,r∈rows->r.length=3):rows.map A8i=A0f (rows.map toE):=by
 simp only [A0f,VQ];refine WW fun r hr=> ?_
 match r,h r hr with
 | [a,b,c],_=>rfl
theorem B5y {H:Type} {enc:TypeId×Value->H} {w:World} {r:Reach} {b0 base:Nat} {spare:Nat->Bool} {held:Bool} {v:Value} {d:DataW H} {p:List MemPlace}
  (hv:Value.okWide Tryz.prog w r b0 24 v) (h:DataW.Trod enc Tryz.prog w base spare held 24 v d p): ∃g:G,TVRel (fun _ _=>True) w (tG g) v:=by
 obtain ⟨v0,v1,y0,y1,n,rfl,-,-,h0,h1⟩:=open_agg2 Tryz.underlying24 (by kernel_rfl) (by kernel_rfl) hv h;obtain ⟨m,hm,-,-⟩:=DataW.trod_int Tryz.underlying3 h0;obtain rfl:v0= .int .i64 m:=by simpa using hm
 obtain ⟨rows,hr,-,ht⟩:=B15 Tryz.underlying22 B72 (by decide) h1;rw [C0p fun r hr'=>(hr r hr').1] at ht;refine ⟨⟨m,rows.map toE⟩,#[.int .i64 m,v1],rfl,rfl,fun j c u hc hu=> ?_⟩
 match j,hc,hu with
 | 0,hc,hu=>simp at hc hu; subst hc hu; exact .int _ _
 | 1,hc,hu=>simp at hc hu; subst hc hu; exact ht
 | n+2,hc,hu=>simp at hc
theorem C0q {rows:List (List Int)} (h: ∀r,r∈rows->r.length=1):rows.map A8i=A0o (rows.map fun r=>r.getD 0 0):=by
 simp only [A0o,VQ];refine WW fun r hr=> ?_
 match r,h r hr with
 | [a],_=>rfl
theorem C2s:A5Q Tryz.prog 3 1:=B14 Tryz.underlying3 (by kernel_rfl)
end Go.Proofs.YtdbdfkohpjefjaaGreat
namespace Go.Proofs.YtdbdfkohpjefjaaGreat
open Go.ChangeShapes Go.WideShapes Go.ChangeAt Go.RowKit Go.Joins Go.Sp
theorem C0r {H:Type} {enc:TypeId×Value->H} {w:World} {r:Reach} {b0 base:Nat} {spare:Nat->Bool} {held:Bool} {v:Value} {d:DataW H} {p:List MemPlace}
  (hv:Value.okWide Tryz.prog w r b0 36 v) (h:DataW.Trod enc Tryz.prog w base spare held 36 v d p): ∃l:List Int,TVRel (fun _ _=>True) w (A0n l) v∧l.length≤maxLen:=by
 obtain ⟨a,len,cap,rfl⟩:=okWide_slice Tryz.underlying36 hv;obtain ⟨m,h⟩:=h;obtain ⟨rows,hr,hl,ht⟩:=B15 Tryz.underlying36 C2s (by decide) (by simpa [Value.cells] using h);rw [C0q fun r hr'=>(hr r hr').1] at ht;exact ⟨_,ht,by simpa using hl⟩
end Go.Proofs.YtdbdfkohpjefjaaGreat
namespace Go.Proofs.YtdbdfkohpjefjaaGreat
open Go.ChangeShapes Go.WideShapes Go.ChangeAt Go.RowKit Go.Joins Go.Sp
end Go.Proofs.YtdbdfkohpjefjaaGreat
