/- A part of the proof. -/
import Derived.Test.YtdbdfkohpjefjaaGreatPart40
import Derived.Test.YtdbdfkohpjefjaaGreatPart39
set_option linter.all false
set_option maxHeartbeats 4000000
set_option maxRecDepth 100000
namespace Go.Proofs.YtdbdfkohpjefjaaGreat
open Go.Sp
theorem A9Y:RSm tgR:=C1o (by decide)
def tgE:List E:=[⟨0,1,1⟩,⟨0,2,1⟩,⟨1,2,1⟩]
theorem C4g:EsOk 3 tgE:=⟨fun e he=>by
 unfold tgE at he;simp only [Qw,Qk,or_false] at he
 rcases he with rfl | rfl | rfl<;>decide⟩
theorem C1x {d:List Int} (hd:d=[1,0,0]∨d=[0,1,0]∨d=[0,0,1]): ∃S,ACall Tryz.prog 73 [tG ⟨3,tgE⟩,A0k 0,A0m d] (.tup [A0m d,A0m S,A0k 0]):=by
 have hB: ∃B,BEnd tgE d 3 (A8K 3 0) B∧B.length=3∧A6r B 3=false:=by
  rcases hd with rfl | rfl | rfl
  ·exact ⟨_,.go (by decide+kernel) (.stop (by decide+kernel)),by decide+kernel,by decide+kernel⟩
  ·exact ⟨_,.go (by decide+kernel) (.go (by decide+kernel) (.stop (by decide+kernel))),by decide+kernel,by decide+kernel⟩
  ·exact ⟨_,.go (by decide+kernel) (.stop (by decide+kernel)),by decide+kernel,by decide+kernel⟩
 obtain ⟨B,b1,b2,b3⟩:=hB;have hv: ∀v,0≤d.getD v 0∧d.getD v 0≤1:=fun v=>by
  rcases hd with rfl | rfl | rfl
  all_goals
   match v with
   | 0=>decide
   | 1=>decide
   | 2=>decide
   | v+3=>exact ⟨by simp,by simp⟩
 have hl:d.length=3:=by rcases hd with rfl | rfl | rfl<;>rfl
 exact ⟨_,B6f 3 0 tgE d (by decide) (by decide) (by decide) hl (by decide) C4g (by decide+kernel) (by decide+kernel) (fun v=>by have:=hv v; omega) (fun v _ _=>(hv v).1) B b1 b2 b3⟩
theorem B0M {x:List Int} (hx:x=[1,0,0]∨x=[0,1,0]∨x=[0,0,1]):
  ACall Tryz.prog 74 [A0m x,.t (.rptr [.int .i64 3,.slice (A0f tgE),.slice (A07 [[0,2],[1,4],[3,5]])]),.t (.rptr [.slice (A0o [1,0,0])])] (A01 (decide (x=[1,0,0]))):=by
 obtain ⟨S,hR⟩:=C1x hx;have hE:=A8N x [1,0,0] (by rcases hx with rfl | rfl | rfl<;>decide) (by decide);generalize decide (x=[1,0,0])=b at*;generalize ([1,0,0]:List Int)=W at*;generalize tgE=es at*;generalize ([[0,2],[1,4],[3,5]]:List (List Int))=ar at*;refine ACall.of_body Tryz.func74 rfl (by kernel_rfl) ?_;simp only [entry,Tryz.ntmps74,A0m];refine zU ?_;refine zR Qw6 (zc hR (zc hE Qw6)) Qw6 ?_;simp [A0y,A0x,Blk.cells,ty,Tryz.results74,A0s,A0u,toT,A0e,A0b,A0c,A0a,A01]
theorem C0U:ACall Tryz.prog 22 [tR tgR,A0m [0,1],A0m [1,-1,0]] (.tup [A0m [1,2],A0k 0]):=by
 have hg:=A8M tgR [0,1] A9Y (by decide);rw [B4H] at hg;have hC:=B1U [1,-1,0] 3 (by decide);rw [show B9i [1,-1,0] 3=0 by decide] at hC
 have hD:=B6c [1,-1,0] 3 (by decide) (by decide) rfl (fun v=>by
  match v with
  | 0=>decide
  | 1=>decide
  | 2=>decide
  | v+3=>exact ⟨by simp,by simp⟩)
 rw [show B9j [1,-1,0] 3=0 by decide] at hD;have hAl:=B33 tgR.g (by decide) (by have:=B4I; omega);rw [if_neg (by rw [show A0w tgR.g=0 from C4o]; simp),show A0w tgR.g=0 from C4o] at hAl;have hdv:=A2s tgR [0,1] A9Y (A3Q B4H).1 (by decide);change ACall _ _ _ (A0m (A4a tgR [0,1])) at hdv;rw [B4F] at hdv
 have hAd:=C3V [1,-1,0] [0,1,0] 3 (by decide) (by decide) rfl rfl (fun v=>by
  match v with
  | 0=>decide
  | 1=>decide
  | 2=>decide
  | v+3=>exact ⟨by simp,by simp⟩) (fun v=>by
  match v with
  | 0=>decide
  | 1=>decide
  | 2=>decide
  | v+3=>exact ⟨by simp,by simp⟩) (fun v hv=>by
  match v with
  | 0=>decide
  | 1=>decide
  | 2=>decide
  | v+3=>omega)
 rw [show B0S [1,-1,0] [0,1,0] 3 3=[1,0,0] by decide] at hAd;obtain ⟨S,hW⟩:=C1x (d:=[1,0,0]) (.inl rfl)
 have hF:=B8W tgR A9Y (tI (treesG tgR.g)) (by rw [B49,B4I]; decide) (fun u hu=>⟨(A2U B2r hu).1,by have:=(A2U B2r hu).2; have e:tgR.n.toNat=3:=rfl; omega⟩) 74 [.int .i64 3,.slice (A0f tgE),.slice (A07 [[0,2],[1,4],[3,5]])] [.slice (A0o [1,0,0])] (fun x=>decide (x=[1,0,0])) (fun u hu=>by
  obtain ⟨U,hU,rfl⟩:=Xq.1 hu;rcases C4f hU with rfl | rfl | rfl
  ·have e:A4a tgR (List.map (fun x:Nat=>(x:Int)) [0,1])=[0,1,0]:=B4F;rw [e]; exact B0M (.inr (.inl rfl))
  ·have e:A4a tgR (List.map (fun x:Nat=>(x:Int)) [0,2])=[0,0,1]:=B4G;rw [e]; exact B0M (.inr (.inr rfl))
  ·have e:A4a tgR (List.map (fun x:Nat=>(x:Int)) [1,2])=[1,0,0]:=B9f
   rw [e]; exact B0M (.inl rfl))
 have hT:=C1w;unfold trT at hT;rw [hT] at hF;have e1:B6a (some [1,2])=[1,2]:=rfl;have e2:B6b (some [1,2])=0:=rfl;rw [e1,e2] at hF;clear hT e1 e2;generalize tI (treesG tgR.g)=Ts at*;have q1:tR tgR=tR ⟨3,tgE,[[0,2],[1,4],[3,5]]⟩:=rfl;have q2:tG tgR.g=tG ⟨3,tgE⟩:=rfl;rw [q1] at hg hdv hF ⊢;rw [q2] at hAl;generalize tgE=es at*;generalize ([[0,2],[1,4],[3,5]]:List (List Int))=ar at*;generalize ([1,2]:List Int)=V at*;generalize ([1,-1,0]:List Int)=D at*;generalize ([1,0,0]:List Int)=W at*;generalize ([0,1,0]:List Int)=DD at*;generalize ([0,1]:List Int)=t at*;refine ACall.of_body Tryz.func22 rfl (by kernel_rfl) ?_;simp only [entry,Tryz.ntmps22,tR,A0m];refine zU ?_;refine zJ (stop 19) Qw6 (zc hg (zc hC (zc hD (zc hAl (zc hdv (zc hAd (zc hW Qw6))))))) Qw6 Qw6 ?_;refine AWp.freezeP 3 0 rfl rfl (ts:=[.int .i64 3,.slice (A0f es),.slice (A07 ar)]) rfl ?_;refine AWp.freezeP 15 1 rfl rfl (ts:=[.slice (A0o W)]) rfl ?_;simp only [List.set_cons_succ,List.set_cons_zero];refine zR Qw6 (zc hF Qw6) Qw6 ?_;simp [A0y,A0x,Blk.cells,ty,Tryz.results22,A0s,A0u,toT,A0e,A0b,A0c,A0a,A0k,A0m]
theorem B0N:ACall Tryz.prog 50 [] (tR tgR):=by
 refine ACall.of_body Tryz.func50 rfl (by kernel_rfl) ?_;simp only [entry,Tryz.ntmps50];refine zU ?_;refine zRc Qw6 Qw6 Qw6 ?_;simp [A0y,A0x,Blk.cells,ty,Tryz.results50,A0s,A0u,toT,A0e,A0b,A0c,A0a,tR,tG,A0f,B9G,A07,A0o,tgR]
theorem B6g:ACall Tryz.prog 11 [] (A01 true):=by
 have hT:=B0N;have c1:=B2d tgR [0,1] A9Y (by decide);rw [if_neg (by rw [B4H]; simp),C2V,B4H] at c1;have c2:=A7k tgR [0,2] A9Y (by decide);rw [if_neg (by rw [C1u]; simp),B4G,C1u] at c2;have c3:=C2R tgG (by decide) (fun _=>by have:=B4I; show (treesG tgR.g).length≤16384; omega);rw [if_neg (by rw [C4o]; simp),C4d,C4o] at c3;have c4:=B9b tgR [1,0,0] A9Y (fun _=>by have:=B4I; omega) (by decide) (fun _=>B2r);rw [if_neg (by rw [C1v]; simp),if_neg (by rw [C1v]; simp),C1w] at c4;have c5:=C0U;have s1:=B3X [0,4,1,2,5,3] [0,4,1,2,5,3] (by decide) (by decide);have s2:=A8N [0,0,1] [0,0,1] (by decide) (by decide);have s3:=B2g [[0,0,1],[0,1,0],[1,0,0]] [[0,0,1],[0,1,0],[1,0,0]] (by decide) (by decide) (by decide) (by decide);have s4:=B3X [1,2] [1,2] (by decide) (by decide);rw [decide_eq_true rfl] at s1 s2 s3 s4;have e4:B6b (some [1,2])=0:=rfl;have v4:B6a (some [1,2])=[1,2]:=rfl;rw [e4,v4] at c4;unfold tR at hT c1 c2 c4 c5;have hg:tG tgG=tG tgR.g:=rfl;rw [hg] at c3;unfold tG at c3;unfold A1i at c3 s3;have hk1:tgR.n=3:=rfl;have hk2:tgR.g.n=3:=rfl;have hk3:tgR.g.es=tgR.es:=rfl;rw [hk1] at hT c1 c2 c4 c5;rw [hk2,hk3] at c3;generalize tgR.es=es at hT c1 c2 c3 c4 c5;generalize tgR.ar=ar at hT c1 c2 c3 c4 c5;refine ACall.of_body Tryz.func11 rfl (by kernel_rfl) ?_;simp only [entry,Tryz.ntmps11];refine zU ?_
 repeat' (first|((first|(refine zT ?_;intro K' hK')|(refine zG ?_ ?_<;>(try refine zH ?_)<;>intro hguard<;>(try exact zX)<;>try intro K' hK'))<;>((try simp+contextual only [go_sem,chunks,List.range,List.range.loop]);(repeat' first|(with_reducible refine hK' _ _ ?_;clear hK' K')|((with_reducible first|refine zK hT ?_|refine zK c1 ?_|refine zK c2 ?_|refine zK c3 ?_|refine zK c4 ?_|refine zK c5 ?_|refine zK s1 ?_|refine zK s2 ?_|refine zK s3 ?_|refine zK s4 ?_);try simp+contextual only [go_sem,chunks,List.range,List.range.loop])|exact zY|with_reducible refine Qw5 ?_ ?_|(with_reducible intro hpath;try exact zP)|(refine hK' _ _ ?_;clear hK' K')|fail);try refine zS ?_))|(refine zE ?_;refine hK _ _ ?_;clear hK K)|(refine zN ?_;try refine zS ?_)|refine zA ?_|(refine zB ?_;intro K hK)|(refine zC ?_ ?_<;>(try refine zH ?_)<;>intro hcond<;>try exact zX)|fail)
 simp [A0y,A0x,Blk.cells,ty,Tryz.results11,A0s,A0u,toT,A0e,A0b,A0c,A0a,A01]
end Go.Proofs.YtdbdfkohpjefjaaGreat
