/- A part of the proof. -/
import Derived.Test.YtdbdfkohpjefjaaGreatPart05
import Derived.Test.YtdbdfkohpjefjaaGreatPart04
import Derived.Test.YtdbdfkohpjefjaaGreatRows
import Derived.ShutString
import Derived.ChangeOld
import Derived.Below
import Derived.Test.YtdbdfkohpjefjaaGreatLayerD
set_option linter.all false
set_option maxHeartbeats 4000000
set_option maxRecDepth 100000
namespace Go.Proofs.YtdbdfkohpjefjaaGreat
open Go.Sp
section
def ltP (x:E) (a b:Int):Prop:=x.a<a∨(x.a=a∧x.b<b)
instance ltP.dec (x:E) (a b:Int):Decidable (ltP x a b):=by unfold ltP; infer_instance
open Go.ChangeShapes Go.WideShapes Go.ChangeAt Go.RowKit Go.Joins Go.Sp
def own:ownKnob Tryz.prog.godebug=none:=by kernel_rfl
def laidOut:laidOutB Tryz.prog=true:=by kernel_rfl
def B9d:A5x Tryz.prog 132 3:=
 A8V Tryz.underlying132 (by kernel_rfl) (fun i f hf=>by
  match i,hf with
  | 0,hf=>obtain rfl:=JX hf; exact ⟨Tryz.underlying3,by kernel_rfl,rfl⟩
  | 1,hf=>obtain rfl:=JX hf; exact ⟨Tryz.underlying3,by kernel_rfl,rfl⟩
  | 2,hf=>obtain rfl:=JX hf; exact ⟨Tryz.underlying3,by kernel_rfl,rfl⟩
  | n+3,hf=>simp at hf)
def toE (r:List Int):E:=⟨r.getD 0 0,r.getD 1 0,r.getD 2 0⟩
def C2j {rows:List (List Int)} (h: ∀r,r∈rows->r.length=3):rows.map A8U=A0f (rows.map toE):=by
 simp only [A0f,VQ];refine Jy fun r hr=> ?_
 match r,h r hr with
 | [a,b,c],_=>rfl
def C4w:A5x Tryz.prog 3 1:=B28 Tryz.underlying3 (by kernel_rfl)
end
open Go.ChangeShapes Go.WideShapes Go.ChangeAt Go.RowKit Go.Joins Go.Sp
def B4n {H:Type} {enc:TypeId×Value->H} {w:World} {r:Reach} {b0 base:Nat} {spare:Nat->Bool} {held:Bool} {v:Value} {d:DataW H} {p:List MemPlace}
  (hv:Value.okWide Tryz.prog w r b0 27 v) (h:DataW.Trod enc Tryz.prog w base spare held 27 v d p): ∃x:R,TVRel (fun _ _=>True) w (tR x) v:=by
 obtain ⟨cs,rfl,hsz⟩:=okWide_struct Tryz.underlying27 hv;have hC:Tryz.prog.cellsOf 27=3:=by kernel_rfl
 have hC2:Tryz.prog.cellsOf 24=2:=by kernel_rfl
 have hC1:Tryz.prog.cellsOf 25=1:=by kernel_rfl
 have hC0:Tryz.prog.cellsOf 3=1:=by kernel_rfl
 have hCe:Tryz.prog.cellsOf 22=1:=by kernel_rfl
 have hCi:Tryz.prog.cellsOf 28=1:=by kernel_rfl
 obtain ⟨c0,c1,c2,rfl⟩:=array3 (hsz.trans hC);obtain ⟨fuel,hf⟩:=h;obtain ⟨xs,m,-,-,-,hx,hg⟩:=DataW.trod_struct Tryz.underlying27 hf;have g0:DataW.trod enc Tryz.prog w base spare held m 24 (([c0,c1,c2].drop 0).take (Tryz.prog.cellsOf 24))=xs[0]? :=hg 0 _ rfl;have g1:DataW.trod enc Tryz.prog w base spare held m 25 (([c0,c1,c2].drop 2).take (Tryz.prog.cellsOf 25))=xs[1]? :=hg 1 _ rfl;have hx2:xs.length=2:=hx;rw [Qq (by omega)] at g0 g1;simp only [hC2,hC1,ZY,List.take_succ_cons,List.take_zero,Zw,ZY] at g0 g1;obtain ⟨ys,m',-,-,-,hy,hk⟩:=DataW.trod_struct Tryz.underlying24 g0;have k0:DataW.trod enc Tryz.prog w base spare held m' 3 (([c0,c1].drop 0).take (Tryz.prog.cellsOf 3))=ys[0]? :=hk 0 _ rfl;have k1:DataW.trod enc Tryz.prog w base spare held m' 22 (([c0,c1].drop 1).take (Tryz.prog.cellsOf 22))=ys[1]? :=hk 1 _ rfl;have hy2:ys.length=2:=hy;rw [Qq (by omega)] at k0 k1;simp only [hC0,hCe,ZY,List.take_succ_cons,List.take_zero,Zw] at k0 k1;obtain ⟨n,hn,-,-⟩:=DataW.trod_int Tryz.underlying3 k0;obtain rfl:c0= .int .i64 n:=by simpa using hn
 obtain ⟨rows,hr,-,ht⟩:=B29 Tryz.underlying22 B9d (by decide) k1;rw [C2j fun r hr'=>(hr r hr').1] at ht;obtain ⟨ls,-,hl⟩:=B6D Tryz.underlying25 Tryz.underlying28 hCi C4w g1;refine ⟨⟨n,rows.map toE,ls⟩,#[.int .i64 n,c1,c2],rfl,rfl,fun j c u hc hu=> ?_⟩
 match j,hc,hu with
 | 0,hc,hu=>simp at hc hu; subst hc hu; exact .int _ _
 | 1,hc,hu=>simp at hc hu; subst hc hu; exact ht
 | 2,hc,hu=>simp at hc hu; subst hc hu; exact hl
 | k+3,hc,hu=>simp at hc
end Go.Proofs.YtdbdfkohpjefjaaGreat
