/- A part of the proof. -/
import Derived.Test.YtdbdfkohpjefjaaGreatPart05
import Derived.Test.YtdbdfkohpjefjaaGreatPart04
import Derived.Test.YtdbdfkohpjefjaaGreatRows
import Derived.ShutString
import Derived.ChangeOld
import Derived.Below
import Derived.Test.YtdbdfkohpjefjaaGreatLayerD
set_option linter.all false
set_option maxHeartbeats 4000000
set_option maxRecDepth 100000
namespace Go.Proofs.YtdbdfkohpjefjaaGreat
open Go.Sp
section
section
def ltP (x:E) (a b:Int):Prop:=x.a<a∨(x.a=a∧x.b<b)
instance ltP.dec (x:E) (a b:Int):Decidable (ltP x a b):=by unfold ltP; infer_instance
open Go.ChangeShapes Go.WideShapes Go.ChangeAt Go.RowKit Go.Joins Go.Sp
def own:ownKnob Tryz.prog.godebug=none:=by kernel_rfl
def laidOut:laidOutB Tryz.prog=true:=by kernel_rfl
def B91:A6v Tryz.prog 132 3:=
 A9d Tryz.underlying132 (by kernel_rfl) (fun i f hf=>by
  match i,hf with
  | 0,hf=>obtain rfl:=JX hf; exact ⟨Tryz.underlying3,by kernel_rfl,rfl⟩
  | 1,hf=>obtain rfl:=JX hf; exact ⟨Tryz.underlying3,by kernel_rfl,rfl⟩
  | 2,hf=>obtain rfl:=JX hf; exact ⟨Tryz.underlying3,by kernel_rfl,rfl⟩
  | n+3,hf=>simp at hf)
def toE (r:List Int):E:=⟨r.getD 0 0,r.getD 1 0,r.getD 2 0⟩
def C2F {rows:List (List Int)} (h: ∀r,r∈rows->r.length=3):rows.map A9c=A0f (rows.map toE):=by
 simp only [A0f,Qq1];refine Jw fun r hr=> ?_
 match r,h r hr with
 | [a,b,c],_=>rfl
def B7r {H:Type} {enc:TypeId×Value->H} {w:World} {r:Reach} {b0 base:Nat} {spare:Nat->Bool} {held:Bool} {v:Value} {d:DataW H} {p:List MemPlace}
  (hv:Value.okWide Tryz.prog w r b0 24 v) (h:DataW.Trod enc Tryz.prog w base spare held 24 v d p): ∃g:G,TVRel (fun _ _=>True) w (tG g) v:=by
 obtain ⟨v0,v1,y0,y1,n,rfl,-,-,h0,h1⟩:=open_agg2 Tryz.underlying24 (by kernel_rfl) (by kernel_rfl) hv h;obtain ⟨m,hm,-,-⟩:=DataW.trod_int Tryz.underlying3 h0;obtain rfl:v0= .int .i64 m:=by simpa using hm
 obtain ⟨rows,hr,-,ht⟩:=B2P Tryz.underlying22 B91 (by decide) h1;rw [C2F fun r hr'=>(hr r hr').1] at ht;refine ⟨⟨m,rows.map toE⟩,#[.int .i64 m,v1],rfl,rfl,fun j c u hc hu=> ?_⟩
 match j,hc,hu with
 | 0,hc,hu=>simp at hc hu; subst hc hu; exact .int _ _
 | 1,hc,hu=>simp at hc hu; subst hc hu; exact ht
 | n+2,hc,hu=>simp at hc
def C2G {rows:List (List Int)} (h: ∀r,r∈rows->r.length=1):rows.map A9c=A0l (rows.map fun r=>r.getD 0 0):=by
 simp only [A0l,Qq1];refine Jw fun r hr=> ?_
 match r,h r hr with
 | [a],_=>rfl
def C4R:A6v Tryz.prog 3 1:=B2O Tryz.underlying3 (by kernel_rfl)
end
open Go.ChangeShapes Go.WideShapes Go.ChangeAt Go.RowKit Go.Joins Go.Sp
def C2H {H:Type} {enc:TypeId×Value->H} {w:World} {r:Reach} {b0 base:Nat} {spare:Nat->Bool} {held:Bool} {v:Value} {d:DataW H} {p:List MemPlace}
  (hv:Value.okWide Tryz.prog w r b0 36 v) (h:DataW.Trod enc Tryz.prog w base spare held 36 v d p): ∃l:List Int,TVRel (fun _ _=>True) w (A0k l) v∧l.length≤maxLen:=by
 obtain ⟨a,len,cap,rfl⟩:=okWide_slice Tryz.underlying36 hv;obtain ⟨m,h⟩:=h;obtain ⟨rows,hr,hl,ht⟩:=B2P Tryz.underlying36 C4R (by decide) (by simpa [Value.cells] using h);rw [C2G fun r hr'=>(hr r hr').1] at ht;exact ⟨_,ht,by simpa using hl⟩
end
open Go.ChangeShapes Go.WideShapes Go.ChangeAt Go.RowKit Go.Joins Go.Sp
end Go.Proofs.YtdbdfkohpjefjaaGreat
