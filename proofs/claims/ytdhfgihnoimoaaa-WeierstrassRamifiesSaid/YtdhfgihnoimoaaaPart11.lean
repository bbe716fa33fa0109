/- A part of the proof. -/
import Derived.Test.YtdhfgihnoimoaaaPart08
import Derived.Test.YtdhfgihnoimoaaaPart07
import Derived.Test.YtdhfgihnoimoaaaLayerC
import Derived.Test.YtdhfgihnoimoaaaSpOpen
import Derived.Test.YtdhfgihnoimoaaaRows
import Derived.WalkKit
import Derived.ProofKit
import Derived.OpenShut
import Derived.ShutString
import Derived.ChangeOld
import Derived.Below
import Derived.Lib.SmallJoins
set_option linter.all false
set_option maxHeartbeats 4000000
set_option maxRecDepth 100000
namespace Go.Proofs.Ytdhfgihnoimoaaa
open Go.Sp
def ltP (x:E) (a b:Int):Prop:=x.a<a∨(x.a=a∧x.b<b)
instance ltP.dec (x:E) (a b:Int):Decidable (ltP x a b):=by unfold ltP; infer_instance
end Go.Proofs.Ytdhfgihnoimoaaa
namespace Go.Proofs.Ytdhfgihnoimoaaa
open Go.ChangeShapes Go.WideShapes Go.ChangeAt Go.RowKit Go.Joins Go.Sp
theorem own:ownKnob Try.prog.godebug=none:=by kernel_rfl
theorem laidOut:laidOutB Try.prog=true:=by kernel_rfl
theorem B4P:A59 Try.prog 55 3:=
 A7I Try.underlying55 (by kernel_rfl) (fun i f hf=>by
  match i,hf with
  | 0,hf=>obtain rfl:=Option.some.inj hf; exact ⟨Try.underlying3,by kernel_rfl,rfl⟩
  | 1,hf=>obtain rfl:=Option.some.inj hf; exact ⟨Try.underlying3,by kernel_rfl,rfl⟩
  | 2,hf=>obtain rfl:=Option.some.inj hf; exact ⟨Try.underlying3,by kernel_rfl,rfl⟩
  | n+3,hf=>simp at hf)
def toE (r:List Int):E:=⟨r.getD 0 0,r.getD 1 0,r.getD 2 0⟩
theorem B64 {rows:List (List Int)} (h: ∀r,r∈rows→r.length=3):rows.map A7H=A0b (rows.map toE):=by
 simp only [A0b,List.map_map]
 refine List.map_congr_left fun r hr=> ?_
 match r,h r hr with
 | [a,b,c],_=>rfl
theorem B30 {H:Type} {enc:TypeId×Value→H} {w:World} {r:Reach} {b0 base:Nat} {spare:Nat→Bool} {held:Bool} {v:Value} {d:DataW H} {p:List MemPlace}
  (hv:Value.okWide Try.prog w r b0 24 v) (h:DataW.Trod enc Try.prog w base spare held 24 v d p): ∃g:G,TVRel (fun _ _=>True) w (tG g) v:=by
 obtain ⟨v0,v1,y0,y1,n,rfl,-,-,h0,h1⟩:=open_agg2 Try.underlying24 (by kernel_rfl) (by kernel_rfl) hv h
 obtain ⟨m,hm,-,-⟩:=DataW.trod_int Try.underlying3 h0
 obtain rfl:v0= .int .i64 m:=by simpa using hm
 obtain ⟨rows,hr,-,ht⟩:=B0v Try.underlying22 B4P (by decide) h1
 rw [B64 fun r hr'=>(hr r hr').1] at ht
 refine ⟨⟨m,rows.map toE⟩,#[.int .i64 m,v1],rfl,rfl,fun j c u hc hu=> ?_⟩
 match j,hc,hu with
 | 0,hc,hu=>simp at hc hu; subst hc hu; exact .int _ _
 | 1,hc,hu=>simp at hc hu; subst hc hu; exact ht
 | n+2,hc,hu=>simp at hc
theorem B65 {rows:List (List Int)} (h: ∀r,r∈rows→r.length=1):rows.map A7H=A0p (rows.map fun r=>r.getD 0 0):=by
 simp only [A0p,List.map_map]
 refine List.map_congr_left fun r hr=> ?_
 match r,h r hr with
 | [a],_=>rfl
theorem B8h:A59 Try.prog 3 1:=B0u Try.underlying3 (by kernel_rfl)
end Go.Proofs.Ytdhfgihnoimoaaa
namespace Go.Proofs.Ytdhfgihnoimoaaa
open Go.ChangeShapes Go.WideShapes Go.ChangeAt Go.RowKit Go.Joins Go.Sp
theorem B66 {H:Type} {enc:TypeId×Value→H} {w:World} {r:Reach} {b0 base:Nat} {spare:Nat→Bool} {held:Bool} {v:Value} {d:DataW H} {p:List MemPlace}
  (hv:Value.okWide Try.prog w r b0 46 v) (h:DataW.Trod enc Try.prog w base spare held 46 v d p): ∃l:List Int,TVRel (fun _ _=>True) w (A0m l) v∧l.length≤maxLen:=by
 obtain ⟨a,len,cap,rfl⟩:=okWide_slice Try.underlying46 hv
 obtain ⟨m,h⟩:=h
 obtain ⟨rows,hr,hl,ht⟩:=B0v Try.underlying46 B8h (by decide) (by simpa [Value.cells] using h)
 rw [B65 fun r hr'=>(hr r hr').1] at ht
 exact ⟨_,ht,by simpa using hl⟩
end Go.Proofs.Ytdhfgihnoimoaaa
