/- A part of the proof. -/
import Derived.Test.YtdbdfkohpjefjaaGreatPart32
import Derived.Test.YtdbdfkohpjefjaaGreatPart31
set_option linter.all false
set_option maxHeartbeats 4000000
set_option maxRecDepth 100000
namespace Go.Proofs.YtdbdfkohpjefjaaGreat
open Go.Sp
def B1l:RSm tgR:=C6S (by decide)
def tgE:List E:=[⟨0,1,1⟩,⟨0,2,1⟩,⟨1,2,1⟩]
def C7t:EsOk 3 tgE:=⟨fun e he=>by
 unfold tgE at he;simp only [QV,XJ,or_false] at he
 rcases he with rfl | rfl | rfl<;>decide⟩
def C4w {d:List Int} (hd:d=[1,0,0]∨d=[0,1,0]∨d=[0,0,1]): ∃S,ACall Tryz.prog 73 [tG ⟨3,tgE⟩,A0j 0,A0k d] (.tup [A0k d,A0k S,A0j 0]):=by
 have hB: ∃B,BEnd tgE d 3 (A9F 3 0) B∧B.length=3∧A6P B 3=false:=by
  rcases hd with rfl | rfl | rfl
  ·exact ⟨_,.go (by decide+kernel) (.stop (by decide+kernel)),by decide+kernel,by decide+kernel⟩
  ·exact ⟨_,.go (by decide+kernel) (.go (by decide+kernel) (.stop (by decide+kernel))),by decide+kernel,by decide+kernel⟩
  ·exact ⟨_,.go (by decide+kernel) (.stop (by decide+kernel)),by decide+kernel,by decide+kernel⟩
 obtain ⟨B,b1,b2,b3⟩:=hB;have hv: ∀v,0≤d.getD v 0∧d.getD v 0≤1:=fun v=>by
  rcases hd with rfl | rfl | rfl
  all_goals
   match v with
   | 0=>decide
   | 1=>decide
   | 2=>decide
   | v+3=>exact ⟨by simp,by simp⟩
 have hl:d.length=3:=by rcases hd with rfl | rfl | rfl<;>rfl
 exact ⟨_,B8d 3 0 tgE d (by decide) (by decide) (by decide) hl (by decide) C7t (by decide+kernel) (by decide+kernel) (fun v=>by have:=hv v; omega) (fun v _ _=>(hv v).1) B b1 b2 b3⟩
def B2i {x:List Int} (hx:x=[1,0,0]∨x=[0,1,0]∨x=[0,0,1]):
  ACall Tryz.prog 74 [A0k x,.t (.rptr [.int .i64 3,.slice (A0f tgE),.slice (A0n [[0,2],[1,4],[3,5]])]),.t (.rptr [.slice (A0l [1,0,0])])] (A0q (decide (x=[1,0,0]))):=by
 obtain ⟨S,hR⟩:=C4w hx;have hE:=A9A x [1,0,0] (by rcases hx with rfl | rfl | rfl<;>decide) (by decide);generalize decide (x=[1,0,0])=b at*;generalize ([1,0,0]:List Int)=W at*;generalize tgE=es at*;generalize ([[0,2],[1,4],[3,5]]:List (List Int))=ar at*;refine ACall.of_body Tryz.func74 rfl (by kernel_rfl) ?_;simp only [entry,Tryz.ntmps74,A0k];refine zU ?_;refine zR Qv5 (zc hR (zc hE Qv5)) Qv5 ?_;simp [A0s,A0r,Blk.cells,ty,Tryz.results74,A0o,A0p,toT,A0d,A0b,A0c,A0a,A0q]
def C3I:ACall Tryz.prog 22 [tR tgR,A0k [0,1],A0k [1,-1,0]] (.tup [A0k [1,2],A0j 0]):=by
 have hg:=A9G tgR [0,1] B1l (by decide);rw [B6G] at hg;have hC:=A9E [1,-1,0] 3 (by decide);rw [show B31 [1,-1,0] 3=0 by decide] at hC
 have hD:=B7Y [1,-1,0] 3 (by decide) (by decide) rfl (fun v=>by
  match v with
  | 0=>decide
  | 1=>decide
  | 2=>decide
  | v+3=>exact ⟨by simp,by simp⟩)
 rw [show C1N [1,-1,0] 3=0 by decide] at hD;have hAl:=B5i tgR.g (by decide) (by have:=B6H; omega);rw [if_neg (by rw [show A0m tgR.g=0 from C70]; simp),show A0m tgR.g=0 from C70] at hAl;have hdv:=A2E tgR [0,1] B1l (B2b B6G).1 (by decide);change ACall _ _ _ (A0k (A4f tgR [0,1])) at hdv;rw [B6E] at hdv
 have hAd:=C7j [1,-1,0] [0,1,0] 3 (by decide) (by decide) rfl rfl (fun v=>by
  match v with
  | 0=>decide
  | 1=>decide
  | 2=>decide
  | v+3=>exact ⟨by simp,by simp⟩) (fun v=>by
  match v with
  | 0=>decide
  | 1=>decide
  | 2=>decide
  | v+3=>exact ⟨by simp,by simp⟩) (fun v hv=>by
  match v with
  | 0=>decide
  | 1=>decide
  | 2=>decide
  | v+3=>omega)
 rw [show B2r [1,-1,0] [0,1,0] 3 3=[1,0,0] by decide] at hAd;obtain ⟨S,hW⟩:=C4w (d:=[1,0,0]) (.inl rfl)
 have hF:=C18 tgR B1l (tI (treesG tgR.g)) (by rw [B1e,B6H]; decide) (fun u hu=>⟨(A3t B3O hu).1,by have:=(A3t B3O hu).2; have e:tgR.n.toNat=3:=rfl; omega⟩) 74 [.int .i64 3,.slice (A0f tgE),.slice (A0n [[0,2],[1,4],[3,5]])] [.slice (A0l [1,0,0])] (fun x=>decide (x=[1,0,0])) (fun u hu=>by
  obtain ⟨U,hU,rfl⟩:=QY.1 hu;rcases C7s hU with rfl | rfl | rfl
  ·have e:A4f tgR (List.map (fun x:Nat=>(x:Int)) [0,1])=[0,1,0]:=B6E;rw [e]; exact B2i (.inr (.inl rfl))
  ·have e:A4f tgR (List.map (fun x:Nat=>(x:Int)) [0,2])=[0,0,1]:=B6F;rw [e]; exact B2i (.inr (.inr rfl))
  ·have e:A4f tgR (List.map (fun x:Nat=>(x:Int)) [1,2])=[1,0,0]:=C1J
   rw [e]; exact B2i (.inl rfl))
 have hT:=C4v;unfold trT at hT;rw [hT] at hF;have e1:B7Z (some [1,2])=[1,2]:=rfl;have e2:B8a (some [1,2])=0:=rfl;rw [e1,e2] at hF;clear hT e1 e2;generalize tI (treesG tgR.g)=Ts at*;have q1:tR tgR=tR ⟨3,tgE,[[0,2],[1,4],[3,5]]⟩:=rfl;have q2:tG tgR.g=tG ⟨3,tgE⟩:=rfl;rw [q1] at hg hdv hF ⊢;rw [q2] at hAl;generalize tgE=es at*;generalize ([[0,2],[1,4],[3,5]]:List (List Int))=ar at*;generalize ([1,2]:List Int)=V at*;generalize ([1,-1,0]:List Int)=D at*;generalize ([1,0,0]:List Int)=W at*;generalize ([0,1,0]:List Int)=DD at*;generalize ([0,1]:List Int)=t at*;refine ACall.of_body Tryz.func22 rfl (by kernel_rfl) ?_;simp only [entry,Tryz.ntmps22,tR,A0k];refine zU ?_;refine zJ (stop 19) Qv5 (zc hg (zc hC (zc hD (zc hAl (zc hdv (zc hAd (zc hW Qv5))))))) Qv5 Qv5 ?_;refine AWp.freezeP 3 0 rfl rfl (ts:=[.int .i64 3,.slice (A0f es),.slice (A0n ar)]) rfl ?_;refine AWp.freezeP 15 1 rfl rfl (ts:=[.slice (A0l W)]) rfl ?_;simp only [List.set_cons_succ,List.set_cons_zero];refine zR Qv5 (zc hF Qv5) Qv5 ?_;simp [A0s,A0r,Blk.cells,ty,Tryz.results22,A0o,A0p,toT,A0d,A0b,A0c,A0a,A0j,A0k]
def B2j:ACall Tryz.prog 50 [] (tR tgR):=by
 refine ACall.of_body Tryz.func50 rfl (by kernel_rfl) ?_;simp only [entry,Tryz.ntmps50];refine zU ?_;refine zRc Qv5 Qv5 Qv5 ?_;simp [A0s,A0r,Blk.cells,ty,Tryz.results50,A0o,A0p,toT,A0d,A0b,A0c,A0a,tR,tG,A0f,C2u,A0n,A0l,tgR]
def B8e:ACall Tryz.prog 11 [] (A0q true):=by
 have hT:=B2j;have c1:=C1e tgR [0,1] B1l (by decide);rw [if_neg (by rw [B6G]; simp),C6d,B6G] at c1;have c2:=B3N tgR [0,2] B1l (by decide);rw [if_neg (by rw [C4t]; simp),B6F,C4t] at c2;have c3:=C1F tgG (by decide) (fun _=>by have:=B6H; show (treesG tgR.g).length≤16384; omega);rw [if_neg (by rw [C70]; simp),C7q,C70] at c3;have c4:=C1C tgR [1,0,0] B1l (fun _=>by have:=B6H; omega) (by decide) (fun _=>B3O);rw [if_neg (by rw [C4u]; simp),if_neg (by rw [C4u]; simp),C4v] at c4;have c5:=C3I;have s1:=B5J [0,4,1,2,5,3] [0,4,1,2,5,3] (by decide) (by decide);have s2:=A9A [0,0,1] [0,0,1] (by decide) (by decide);have s3:=A7U [[0,0,1],[0,1,0],[1,0,0]] [[0,0,1],[0,1,0],[1,0,0]] (by decide) (by decide) (by decide) (by decide);have s4:=B5J [1,2] [1,2] (by decide) (by decide);rw [decide_eq_true rfl] at s1 s2 s3 s4;have e4:B8a (some [1,2])=0:=rfl;have v4:B7Z (some [1,2])=[1,2]:=rfl;rw [e4,v4] at c4;unfold tR at hT c1 c2 c4 c5;have hg:tG tgG=tG tgR.g:=rfl;rw [hg] at c3;unfold tG at c3;unfold A05 at c3 s3;have hk1:tgR.n=3:=rfl;have hk2:tgR.g.n=3:=rfl;have hk3:tgR.g.es=tgR.es:=rfl;rw [hk1] at hT c1 c2 c4 c5;rw [hk2,hk3] at c3;generalize tgR.es=es at hT c1 c2 c3 c4 c5;generalize tgR.ar=ar at hT c1 c2 c3 c4 c5;refine ACall.of_body Tryz.func11 rfl (by kernel_rfl) ?_;simp only [entry,Tryz.ntmps11];refine zU ?_;refine zMc Qv5 Qv5 (zc hT (zc c1 (zc c2 (zc c3 (zc c4 (zc c5 (zc s1 (zc s2 (zc s3 (zc s4 Qv5)))))))))) Qv5 Qv5 (ed fun hp hpc=>?_);simp [A0s,A0r,Blk.cells,ty,Tryz.results11,A0o,A0p,toT,A0d,A0b,A0c,A0a,A0q]
end Go.Proofs.YtdbdfkohpjefjaaGreat
