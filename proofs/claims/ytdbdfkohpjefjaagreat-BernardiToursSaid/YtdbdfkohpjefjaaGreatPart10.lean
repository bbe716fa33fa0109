/- A part of the proof. -/
import Derived.Test.YtdbdfkohpjefjaaGreatPart07
import Derived.Test.YtdbdfkohpjefjaaGreatRows
import Derived.ShutString
import Derived.ChangeOld
import Derived.Below
import Derived.Test.YtdbdfkohpjefjaaGreatLayerD
set_option linter.all false
set_option maxHeartbeats 4000000
set_option maxRecDepth 100000
namespace Go.Proofs.YtdbdfkohpjefjaaGreat
open Go.Sp
theorem B9X (h:Nat):Int.tdiv (h:Int) 2=((h / 2:Nat):Int):=rfl
theorem B5p (h:Nat):Int.tmod (h:Int) 2=((h%2:Nat):Int):=rfl
theorem C3z (L:List (Int×Int)) (h:Nat) (hh:h<2*L.length) (hl:L.length<2^30):ACall Tryz.prog 169 [A0C L,A0k h] (A0k (atL L h)):=by
 have e0:L[h / 2]? =some L[h / 2]:=Qq (by omega);have e1:=A2o e0;have ea:atL L h=if h%2=0 then L[h / 2].1 else L[h / 2].2:=by unfold atL; rw [Qz,e0]; rfl
 have hlt:((h / 2:Nat):Int)<L.length:=by omega
 rw [ea];generalize L[h / 2]=p at*;obtain ⟨a,b⟩:=p;refine ACall.of_body Tryz.func169 rfl (by kernel_rfl) ?_;simp only [entry,Tryz.ntmps169,A0C,A0k];refine zU ?_;have hm:h%2=0∨h%2=1:=by omega
 rcases hm with hm | hm
 ·
  refine zR (zc @B9X (zc @B5p (zc @hm (zc @hlt (zc @A02 (zc @e1 Qw6)))))) Qw6 Qw6 ?_;simp [A0y,A0x,Blk.cells,ty,Tryz.results169,A0s,A0u,toT,A0e,A0b,A0c,A0a,A0k,hm]
 ·
  refine zR (zc @B9X (zc @B5p (zc @hm (zc @hlt (zc @A02 (zc @e1 Qw6)))))) Qw6 Qw6 ?_;simp [A0y,A0x,Blk.cells,ty,Tryz.results169,A0s,A0u,toT,A0e,A0b,A0c,A0a,A0k,hm]
@[simp] theorem C2Y (L:List (Int×Int)) (n k:Nat):(chJ (A1h L n k)).take n=chJ (A1h L n k):=A5W (by rw [A0G]; exact QQ _)
theorem B1A (L:List (Int×Int)) (n:Nat) (hn:n<2^20) (hl:L.length<2^20) (hr: ∀h,h<2*L.length->0≤atL L h∧atL L h<n):
  ACall Tryz.prog 132 [A0k n,A0C L] (A1i (A1h L n (2*L.length))):=by
 refine ACall.of_body Tryz.func132 rfl (by kernel_rfl) ?_;simp only [entry,Tryz.ntmps132,A0C,A0k];refine zU ?_
 repeat' (first|((first|(refine zT ?_;intro K' hK')|(refine zG ?_ ?_<;>(try refine zH ?_)<;>intro hguard<;>(try exact zX)<;>try intro K' hK'))<;>((try simp+contextual only [go_sem,B7h,Int.toNat_natCast,Yq,A02,Yx]);(repeat' first|(with_reducible refine hK' _ _ ?_;clear hK' K')|exact zY|with_reducible refine Qw5 ?_ ?_|(with_reducible intro hpath;try exact zP)|(refine hK' _ _ ?_;clear hK' K')|fail);try refine zS ?_))|(refine zE ?_;refine hK _ _ ?_;clear hK K)|(refine zN ?_;try refine zS ?_)|refine zA ?_|(refine zB ?_;intro K hK)|(refine zC ?_ ?_<;>(try refine zH ?_)<;>intro hcond<;>try exact zX)|fail)
 refine AWp.weak (A0r.openBs 0 n (pre:=[]) rfl (Xj _)) ?_;simp only [List.length_cons,List.length_nil,List.set_cons_zero,List.nil_append,List.cons_append,Xk,C1K,C1L,B15 L n];refine AWp.loopS (α:=Nat) 31 (fun k=>[(1,.c (.slice (A1b L) .none)),(5,.c (.ref 0 1 0 n n)),(11,.c (.int .i64 (2*(L.length:Int)))),(12,.c (.int .i64 (k:Int)))]) (fun k=>.box (chI 1 (A1h L n k))::chJ (A1h L n k)) (fun k=>k≤2*L.length) (fun k=>2*L.length-k) (0) (hk:=A0r.headL (n+1) 31 [1,5,11,12] (by (repeat' (first | exact A0n _ | exact A0v _ | exact A0h _ | refine Qw5 ?_ ?_ | refine A0i ?_ ?_ | refine A0l ?_ ?_ | refine A0g ?_ ?_ | exact Qw4 | exact A96 (by rw [A0G]; omega) | exact A2a | (show _<_; omega) | exact A0p (fun _=>Qw4) | (intro c hc; cases hc; done) | (intro c hc; simp only [Qw,Qk,or_false] at hc; subst hc; first | exact Qw4 | exact A96 (by rw [A0G]; omega) | exact A2a | (show _<_; omega)) | (intro c hc; simp only [Qw,Qk,or_false] at hc; rcases hc with rfl | rfl<;>first | exact Qw4 | exact A96 (by rw [A0G]; omega) | exact A2a | (show _<_; omega)))))) (h0:=?_) (round:=fun k hI=>?_)
 ·exact Xj _
 ·have hk:k≤2*L.length:=hI;clear hI;by_cases hlt:k<2*L.length
  ·have hltI:(k:Int)<2*(L.length:Int):=by omega
   have hat:=hr k hlt;have hA:=C3z L k hlt (by omega);obtain ⟨v,hv⟩: ∃v:Nat,atL L k=v:=⟨(atL L k).toNat,by omega⟩;have hvn:v<n:=by omega
   have hvI:(v:Int)<n:=by omega
   have hnx:=B16 hvn hv;have hg:=A2L (L:=L) (k:=k) hvn;have hol:=A76 L (v:Int) k;have hll:=A0G L n k;rw [hv] at hA;generalize ownL L (v:Int) k=o at*;have g1:=B7d (b:=1) hg;have g2:=B3Z (b:=1) hg;have g3:=B7f hg;have g4:=B7e 1 v (A1h L n k) (o++[(k:Int)]);have g5:=B7g v (A1h L n k) (o++[(k:Int)]) (n:=o.length+1) (by simp);rw [<-hnx] at g4 g5;refine zRc (zc @hltI (zc @hvI (zc @A02 (zc @g1 (zc @g2 (zc @g3 (zc @g4 (zc @g5 (zc @A2f (zc @A8v (zc @hll (zc @A0d (zc @A1P Qw6))))))))))))) (zc hA Qw6) @A1c ?_;refine ⟨k+1,A0r.headN (n+1) 31 [1,5,11,12] (by (repeat' (first | exact A0n _ | exact A0v _ | exact A0h _ | refine Qw5 ?_ ?_ | refine A0i ?_ ?_ | refine A0l ?_ ?_ | refine A0g ?_ ?_ | exact Qw4 | exact A96 (by rw [A0G]; omega) | exact A2a | (show _<_; omega) | exact A0p (fun _=>Qw4) | (intro c hc; cases hc; done) | (intro c hc; simp only [Qw,Qk,or_false] at hc; subst hc; first | exact Qw4 | exact A96 (by rw [A0G]; omega) | exact A2a | (show _<_; omega)) | (intro c hc; simp only [Qw,Qk,or_false] at hc; rcases hc with rfl | rfl<;>first | exact Qw4 | exact A96 (by rw [A0G]; omega) | exact A2a | (show _<_; omega))))),?_,?_⟩
   ·exact hlt
   ·omega
  ·have ek:k=2*L.length:=by omega
   subst ek;have hnl: ¬(((2*L.length:Nat):Int)<2*(L.length:Int)):=by omega
   refine zJ (stop 7) (zc @hnl Qw6) Qw6 Qw6 Qw6 ?_;refine AWp.boxData 5 0 1 ((A1h L n (2*L.length)).map A0o) rfl rfl (by rw [XY,A0G]) (QQ _) ?_;rw [C1f];simp only [List.set_cons_succ,List.set_cons_zero];refine zR Qw6 Qw6 Qw6 ?_;simp [A0y,A0x,Blk.cells,ty,Tryz.results132,A0s,A0u,toT,A0e,A0b,A0c,A0a,A1i]
end Go.Proofs.YtdbdfkohpjefjaaGreat
namespace Go.Proofs.YtdbdfkohpjefjaaGreat
open Go.Sp Go.RowKit
open Go.Sort (SWO)
def mnL (L:List (Int×Int)) (a:Nat):Int:=min (L.getD a (0,0)).1 (L.getD a (0,0)).2
def mxL (L:List (Int×Int)) (a:Nat):Int:=max (L.getD a (0,0)).1 (L.getD a (0,0)).2
def ltN (L:List (Int×Int)) (a b:Nat):Prop:=mnL L a<mnL L b∨(mnL L a=mnL L b∧(mxL L a<mxL L b∨(mxL L a=mxL L b∧a<b)))
instance ltN.dec (L:List (Int×Int)) (a b:Nat):Decidable (ltN L a b):=by unfold ltN; infer_instance
end Go.Proofs.YtdbdfkohpjefjaaGreat
namespace Go.Proofs.YtdbdfkohpjefjaaGreat
open Go.ChangeShapes Go.WideShapes Go.ChangeAt Go.RowKit Go.Joins Go.Sp
theorem own:ownKnob Tryz.prog.godebug=none:=by kernel_rfl
theorem laidOut:laidOutB Tryz.prog=true:=by kernel_rfl
theorem B7q:A4O Tryz.prog 132 3:=
 A8k Tryz.underlying132 (by kernel_rfl) (fun i f hf=>by
  match i,hf with
  | 0,hf=>obtain rfl:=Vx hf; exact ⟨Tryz.underlying3,by kernel_rfl,rfl⟩
  | 1,hf=>obtain rfl:=Vx hf; exact ⟨Tryz.underlying3,by kernel_rfl,rfl⟩
  | 2,hf=>obtain rfl:=Vx hf; exact ⟨Tryz.underlying3,by kernel_rfl,rfl⟩
  | n+3,hf=>simp at hf)
def toE (r:List Int):E:=⟨r.getD 0 0,r.getD 1 0,r.getD 2 0⟩
theorem B9Y {rows:List (List Int)} (h: ∀r,r∈rows->r.length=3):rows.map A7r=A0f (rows.map toE):=by
 simp only [A0f,JV];refine Wj fun r hr=> ?_
 match r,h r hr with
 | [a,b,c],_=>rfl
theorem B9Z {rows:List (List Int)} (h: ∀r,r∈rows->r.length=1):rows.map A7r=A0o (rows.map fun r=>r.getD 0 0):=by
 simp only [A0o,JV];refine Wj fun r hr=> ?_
 match r,h r hr with
 | [a],_=>rfl
theorem B7r:A4O Tryz.prog 3 1:=B1y Tryz.underlying3 (by kernel_rfl)
theorem open_ints {H:Type} {enc:TypeId×Value->H} {w:World} {r:Reach} {b0 base:Nat} {spare:Nat->Bool} {held:Bool} {v:Value} {d:DataW H} {p:List MemPlace}
  (hv:Value.okWide Tryz.prog w r b0 28 v) (h:DataW.Trod enc Tryz.prog w base spare held 28 v d p): ∃l:List Int,TVRel (fun _ _=>True) w (A0m l) v∧l.length≤maxLen:=by
 obtain ⟨a,len,cap,rfl⟩:=okWide_slice Tryz.underlying28 hv;obtain ⟨m,h⟩:=h;obtain ⟨rows,hr,hl,ht⟩:=A8l Tryz.underlying28 B7r (by decide) (by simpa [Value.cells] using h);rw [B9Z fun r hr'=>(hr r hr').1] at ht;exact ⟨_,ht,by simpa using hl⟩
end Go.Proofs.YtdbdfkohpjefjaaGreat
namespace Go.Proofs.YtdbdfkohpjefjaaGreat
open Go.ChangeShapes Go.WideShapes Go.ChangeAt Go.RowKit Go.Joins Go.Sp
theorem B2T {H:Type} {enc:TypeId×Value->H} {w:World} {r:Reach} {b0 base:Nat} {spare:Nat->Bool} {held:Bool} {v:Value} {d:DataW H} {p:List MemPlace}
  (hv:Value.okWide Tryz.prog w r b0 27 v) (h:DataW.Trod enc Tryz.prog w base spare held 27 v d p): ∃x:R,TVRel (fun _ _=>True) w (tR x) v:=by
 obtain ⟨cs,rfl,hsz⟩:=okWide_struct Tryz.underlying27 hv;have hC:Tryz.prog.cellsOf 27=3:=by kernel_rfl
 have hC2:Tryz.prog.cellsOf 24=2:=by kernel_rfl
 have hC1:Tryz.prog.cellsOf 25=1:=by kernel_rfl
 have hC0:Tryz.prog.cellsOf 3=1:=by kernel_rfl
 have hCe:Tryz.prog.cellsOf 22=1:=by kernel_rfl
 have hCi:Tryz.prog.cellsOf 28=1:=by kernel_rfl
 obtain ⟨c0,c1,c2,rfl⟩:=array3 (hsz.trans hC);obtain ⟨fuel,hf⟩:=h;obtain ⟨xs,m,-,-,-,hx,hg⟩:=DataW.trod_struct Tryz.underlying27 hf;have g0:DataW.trod enc Tryz.prog w base spare held m 24 (([c0,c1,c2].drop 0).take (Tryz.prog.cellsOf 24))=xs[0]? :=hg 0 _ rfl;have g1:DataW.trod enc Tryz.prog w base spare held m 25 (([c0,c1,c2].drop 2).take (Tryz.prog.cellsOf 25))=xs[1]? :=hg 1 _ rfl;have hx2:xs.length=2:=hx;rw [Qq (by omega)] at g0 g1;simp only [hC2,hC1,ZY,List.take_succ_cons,List.take_zero,Zx,ZY] at g0 g1;obtain ⟨ys,m',-,-,-,hy,hk⟩:=DataW.trod_struct Tryz.underlying24 g0;have k0:DataW.trod enc Tryz.prog w base spare held m' 3 (([c0,c1].drop 0).take (Tryz.prog.cellsOf 3))=ys[0]? :=hk 0 _ rfl;have k1:DataW.trod enc Tryz.prog w base spare held m' 22 (([c0,c1].drop 1).take (Tryz.prog.cellsOf 22))=ys[1]? :=hk 1 _ rfl;have hy2:ys.length=2:=hy;rw [Qq (by omega)] at k0 k1;simp only [hC0,hCe,ZY,List.take_succ_cons,List.take_zero,Zx] at k0 k1;obtain ⟨n,hn,-,-⟩:=DataW.trod_int Tryz.underlying3 k0;obtain rfl:c0= .int .i64 n:=by simpa using hn
 obtain ⟨rows,hr,-,ht⟩:=A8l Tryz.underlying22 B7q (by decide) k1;rw [B9Y fun r hr'=>(hr r hr').1] at ht;obtain ⟨ls,-,hl⟩:=B5f Tryz.underlying25 Tryz.underlying28 hCi B7r g1;refine ⟨⟨n,rows.map toE,ls⟩,#[.int .i64 n,c1,c2],rfl,rfl,fun j c u hc hu=> ?_⟩
 match j,hc,hu with
 | 0,hc,hu=>simp at hc hu; subst hc hu; exact .int _ _
 | 1,hc,hu=>simp at hc hu; subst hc hu; exact ht
 | 2,hc,hu=>simp at hc hu; subst hc hu; exact hl
 | k+3,hc,hu=>simp at hc
end Go.Proofs.YtdbdfkohpjefjaaGreat
namespace Go.Proofs.YtdbdfkohpjefjaaGreat
open Go.ChangeShapes Go.WideShapes Go.ChangeAt Go.RowKit Go.Joins Go.Sp
end Go.Proofs.YtdbdfkohpjefjaaGreat
