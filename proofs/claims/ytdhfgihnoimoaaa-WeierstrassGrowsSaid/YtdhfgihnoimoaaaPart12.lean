/- A part of the proof. -/
import Derived.Test.YtdhfgihnoimoaaaPart07
import Derived.Test.YtdhfgihnoimoaaaLayerC
import Derived.Test.YtdhfgihnoimoaaaSpOpen
import Derived.Test.YtdhfgihnoimoaaaRows
import Derived.WalkKit
import Derived.ProofKit
import Derived.OpenShut
import Derived.ShutString
import Derived.ChangeOld
import Derived.Below
import Derived.Lib.SmallJoins
set_option linter.all false
set_option maxHeartbeats 4000000
set_option maxRecDepth 100000
namespace Go.Proofs.Ytdhfgihnoimoaaa
open Go.Sp
def B65 (l:List Int):Nat→List Int
 | 0=>l
 | i+1=>((B65 l i).set i ((B65 l i)[l.length-1-i]?.getD 0)).set (l.length-1-i) ((B65 l i)[i]?.getD 0)
@[simp] theorem B8L (l:List Int):B65 l 0=l:=rfl
theorem A5G {m:Nat} {pre:List Blk} {B:List Int} (hpre: ∀b,b∈pre→blkIn (pre.length+1) b) (hm:m=pre.length+1:=by rfl):A1u m (pre++[.box (iC B)]):=by
 subst hm
 intro b hb
 rcases List.mem_append.1 hb with hb | hb
 ·exact hpre b hb
 ·obtain rfl:=List.mem_singleton.1 hb
  exact A0o
@[simp] theorem B9C (pre:List Blk) (X:Blk):(pre++[X]).take (pre.length+1)=pre++[X]:=List.take_of_length_le (by simp)
end Go.Proofs.Ytdhfgihnoimoaaa
namespace Go.Proofs.Ytdhfgihnoimoaaa
open Go.ChangeShapes Go.WideShapes Go.ChangeAt Go.RowKit Go.Joins Go.Sp
theorem own:ownKnob Try.prog.godebug=none:=by kernel_rfl
theorem laidOut:laidOutB Try.prog=true:=by kernel_rfl
theorem B4K:A9x Try.prog 55 3:=
 A7G Try.underlying55 (by kernel_rfl) (fun i f hf=>by
  match i,hf with
  | 0,hf=>obtain rfl:=Option.some.inj hf; exact ⟨Try.underlying3,by kernel_rfl,rfl⟩
  | 1,hf=>obtain rfl:=Option.some.inj hf; exact ⟨Try.underlying3,by kernel_rfl,rfl⟩
  | 2,hf=>obtain rfl:=Option.some.inj hf; exact ⟨Try.underlying3,by kernel_rfl,rfl⟩
  | n+3,hf=>simp at hf)
def toE (r:List Int):E:=⟨r.getD 0 0,r.getD 1 0,r.getD 2 0⟩
theorem B66 {rows:List (List Int)} (h: ∀r,r∈rows→r.length=3):rows.map A8u=A0b (rows.map toE):=by
 simp only [A0b,List.map_map]
 refine List.map_congr_left fun r hr=> ?_
 match r,h r hr with
 | [a,b,c],_=>rfl
theorem B3y {H:Type} {enc:TypeId×Value→H} {w:World} {r:Reach} {b0 base:Nat} {spare:Nat→Bool} {held:Bool} {v:Value} {d:DataW H} {p:List MemPlace}
  (hv:Value.okWide Try.prog w r b0 24 v) (h:DataW.Trod enc Try.prog w base spare held 24 v d p): ∃g:G,TVRel (fun _ _=>True) w (tG g) v:=by
 obtain ⟨v0,v1,y0,y1,n,rfl,-,-,h0,h1⟩:=open_agg2 Try.underlying24 (by kernel_rfl) (by kernel_rfl) hv h
 obtain ⟨m,hm,-,-⟩:=DataW.trod_int Try.underlying3 h0
 obtain rfl:v0= .int .i64 m:=by simpa using hm
 obtain ⟨rows,hr,-,ht⟩:=B48 Try.underlying22 B4K (by decide) h1
 rw [B66 fun r hr'=>(hr r hr').1] at ht
 refine ⟨⟨m,rows.map toE⟩,#[.int .i64 m,v1],rfl,rfl,fun j c u hc hu=> ?_⟩
 match j,hc,hu with
 | 0,hc,hu=>simp at hc hu; subst hc hu; exact .int _ _
 | 1,hc,hu=>simp at hc hu; subst hc hu; exact ht
 | n+2,hc,hu=>simp at hc
end Go.Proofs.Ytdhfgihnoimoaaa
namespace Go.Proofs.Ytdhfgihnoimoaaa
open Go.ChangeShapes Go.WideShapes Go.ChangeAt Go.RowKit Go.Joins Go.Sp
theorem B9U {x:Int} (h:(Lit.int .u8 x).wf=true):0≤x∧x≤255:=by
 simp only [Lit.wf,Bool.and_eq_true,decide_eq_true_eq,IntKind.min,IntKind.max,IntKind.signed,IntKind.bits] at h
 simp at h
 omega
end Go.Proofs.Ytdhfgihnoimoaaa
