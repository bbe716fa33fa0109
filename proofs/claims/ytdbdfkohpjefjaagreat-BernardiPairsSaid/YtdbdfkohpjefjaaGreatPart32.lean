/- A part of the proof. -/
import Derived.Test.YtdbdfkohpjefjaaGreatPart30
import Derived.Test.YtdbdfkohpjefjaaGreatPart31
set_option linter.all false
set_option maxHeartbeats 4000000
set_option maxRecDepth 100000
namespace Go.Proofs.YtdbdfkohpjefjaaGreat
open Go.Sp
def tgG:G:=⟨3,[⟨0,1,1⟩,⟨0,2,1⟩,⟨1,2,1⟩]⟩
def tgR:R:=⟨3,[⟨0,1,1⟩,⟨0,2,1⟩,⟨1,2,1⟩],[[0,2],[1,4],[3,5]]⟩
def B6m:ribE tgR=0:=by decide+kernel
def B37:ROk tgR:=B5A B6m
def C6W:A0t tgG=0:=by decide+kernel
def C58:endsL tgR.es=[(0,1),(0,2),(1,2)]:=by decide+kernel
def C59 {t:List Int} {es:List E} (he:endsL es=pkL (endsL tgR.es) t) (hl:t.length=2) (hc:checkG ⟨3,es⟩=0) (hb:connB ⟨3,es⟩=true):treeB 3 (endsL tgR.es) t=true:=by
 have h:=A2W (g:=⟨3,es⟩) (n:=3) hc rfl;rw [hb] at h;have h2:=of_decide_eq_true h.symm;unfold treeB;refine decide_eq_true ⟨by rw [hl]; rfl,?_⟩;rw [<-he]; exact h2
def C1g {T:List Nat} (hp:T.Pairwise (·< ·)) (hlt: ∀x,x∈T->x<3) (hb:treeB 3 (endsL tgR.es) (zI T)=true):T∈treesG tgR.g:=by
 have hlt2: ∀x,x∈T->x<(endsL tgR.es).length:=fun x hx=>by rw [C58]; exact hlt x hx
 have h3:=(A6U (A2k B37) (A99 B37) hlt2).1 hb;exact A2m.2 ⟨hp,hlt2,h3.1,h3.2⟩
def C6H:[0,1]∈treesG tgR.g:=C1g (by decide) (by decide) (C59 (es:=[⟨0,1,1⟩,⟨0,2,1⟩]) (by decide+kernel) rfl (by decide+kernel) (by decide+kernel))
def C6I:[0,2]∈treesG tgR.g:=C1g (by decide) (by decide) (C59 (es:=[⟨0,1,1⟩,⟨1,2,1⟩]) (by decide+kernel) rfl (by decide+kernel) (by decide+kernel))
def C6J:[1,2]∈treesG tgR.g:=C1g (by decide) (by decide) (C59 (es:=[⟨0,2,1⟩,⟨1,2,1⟩]) (by decide+kernel) rfl (by decide+kernel) (by decide+kernel))
def B6n:A2l tgR [0,1]=[0,1,0]:=by decide+kernel
def B6o:A2l tgR [0,2]=[0,0,1]:=by decide+kernel
def C1h:A2l tgR [1,2]=[1,0,0]:=by decide+kernel
def C5A:tourL tgR [0,1] (2*(endsL tgR.es).length)=[0,4,1,2,5,3]:=by decide+kernel
def C3I:zI [0,1]=[0,1]:=by decide
def C3J:zI [0,2]=[0,2]:=by decide
def C3K:zI [1,2]=[1,2]:=by decide
def B6p:B39 tgR [0,1]=0:=by
 have h:=B1U B6m C6H;rw [C3I] at h; exact h
def C3L:B39 tgR [0,2]=0:=by
 have h:=B1U B6m C6I;rw [C3J] at h; exact h
def B4U:(treesG tgR.g).Perm [[0,1],[0,2],[1,2]]:=by
 have hnT:(treesG tgR.g).Nodup:=A6c (show acyc (pkN (endsL tgR.g.es) []) from A3E);refine (WJ hnT (by decide)).2 fun T=>⟨fun h=> ?_,fun h=> ?_⟩
 ·obtain ⟨h1,h2,h3,-⟩:=A2m.1 h;have e3:(endsL tgR.g.es).length=3:=by decide+kernel
  rw [e3] at h2
  match T,h1,h2,h3 with
  | [a,b],h1,h2,h3=>
   have hb:=h2 b (by simp);have hab:a<b:=by simpa using h1
   have:(a=0∧b=1)∨(a=0∧b=2)∨(a=1∧b=2):=by omega
   rcases this with ⟨rfl,rfl⟩ | ⟨rfl,rfl⟩ | ⟨rfl,rfl⟩<;>decide
  | [],_,_,h3=>cases h3
  | [a],_,_,h3=>cases h3
  | a::b::c::T,_,_,h3=>
   have e:tgR.g.n.toNat=3:=rfl;rw [e] at h3;simp at h3
 ·simp only [Qw,Qv,or_false] at h;rcases h with rfl | rfl | rfl
  ·exact C6H
  ·exact C6I
  ·exact C6J
def B6q:(treesG tgR.g).length=3:=by rw [B4U.length_eq]; rfl
def C6K:B7B tgG=tgR:=by
 have e:A1l (endsL tgG.es) tgG.n.toNat (2*(endsL tgG.es).length)=[[0,2],[1,4],[3,5]]:=by decide+kernel
 unfold B7B;rw [e]; rfl
def C6L:sortLL (C5M tgG)=[[0,0,1],[0,1,0],[1,0,0]]:=by
 refine (A5e (by decide) ?_).symm;have e:C5M tgG=(treesG tgR.g).map fun T=>A2l tgR (zI T):=by unfold C5M tI; rw [VQ,C6K]; rfl
 rw [e];refine (List.Perm.trans (B4U.map _) ?_).symm;have e2:([[0,1],[0,2],[1,2]]:List (List Nat)).map (fun T=>A2l tgR (zI T))=[A2l tgR [0,1],A2l tgR [0,2],A2l tgR [1,2]]:=rfl;rw [e2,B6n,B6o,C1h];decide
def C6M:C3a tgR.g [1,0,0]=true:=by decide+kernel
def C3M:trE tgR [1,0,0]=0:=by
 unfold trE;rw [if_neg (by rw [B6m]; simp),if_neg (by decide),if_pos C6M]
def C6N {T:List Nat} (h:T∈treesG tgR.g):T=[0,1]∨T=[0,2]∨T=[1,2]:=by
 have:=B4U.mem_iff.1 h;simpa using this
def C3N:trT tgR [1,0,0]=some [1,2]:=by
 have h:=C1f (r:=tgR) (q:=fun x=>decide (x=[1,0,0])) (T:=[1,2]) C6J (by rw [C3K]; exact decide_eq_true C1h) fun T' hT' h=>by
  have h1:=of_decide_eq_true h;rcases C6N hT' with rfl | rfl | rfl
  ·rw [C3I,B6n] at h1; exact absurd h1 (by decide)
  ·rw [C3J,B6o] at h1; exact absurd h1 (by decide)
  ·rfl
 rw [C3K] at h; exact h
def B0Z:RSm tgR:=C02 (by decide)
def tgE:List E:=[⟨0,1,1⟩,⟨0,2,1⟩,⟨1,2,1⟩]
def C6O:EsOk 3 tgE:=⟨fun e he=>by
 unfold tgE at he;simp only [Qw,Qv,or_false] at he
 rcases he with rfl | rfl | rfl<;>decide⟩
def C3O {d:List Int} (hd:d=[1,0,0]∨d=[0,1,0]∨d=[0,0,1]): ∃S,ACall Tryz.prog 73 [tG ⟨3,tgE⟩,A0n 0,A0q d] (.tup [A0q d,A0q S,A0n 0]):=by
 have hB: ∃B,BEnd tgE d 3 (A98 3 0) B∧B.length=3∧A6L B 3=false:=by
  rcases hd with rfl | rfl | rfl
  ·exact ⟨_,.go (by decide+kernel) (.stop (by decide+kernel)),by decide+kernel,by decide+kernel⟩
  ·exact ⟨_,.go (by decide+kernel) (.go (by decide+kernel) (.stop (by decide+kernel))),by decide+kernel,by decide+kernel⟩
  ·exact ⟨_,.go (by decide+kernel) (.stop (by decide+kernel)),by decide+kernel,by decide+kernel⟩
 obtain ⟨B,b1,b2,b3⟩:=hB;have hv: ∀v,0≤d.getD v 0∧d.getD v 0≤1:=fun v=>by
  rcases hd with rfl | rfl | rfl
  all_goals
   match v with
   | 0=>decide
   | 1=>decide
   | 2=>decide
   | v+3=>exact ⟨by simp,by simp⟩
 have hl:d.length=3:=by rcases hd with rfl | rfl | rfl<;>rfl
 exact ⟨_,B7E 3 0 tgE d (by decide) (by decide) (by decide) hl (by decide) C6O (by decide+kernel) (by decide+kernel) (fun v=>by have:=hv v; omega) (fun v _ _=>(hv v).1) B b1 b2 b3⟩
def B1V {x:List Int} (hx:x=[1,0,0]∨x=[0,1,0]∨x=[0,0,1]):
  ACall Tryz.prog 74 [A0q x,.t (.rptr [.int .i64 3,.slice (A0f tgE),.slice (A0u [[0,2],[1,4],[3,5]])]),.t (.rptr [.slice (A0p [1,0,0])])] (A0x (decide (x=[1,0,0]))):=by
 obtain ⟨S,hR⟩:=C3O hx;have hE:=A9y x [1,0,0] (by rcases hx with rfl | rfl | rfl<;>decide) (by decide);generalize decide (x=[1,0,0])=b at*;generalize ([1,0,0]:List Int)=W at*;generalize tgE=es at*;generalize ([[0,2],[1,4],[3,5]]:List (List Int))=ar at*;refine ACall.of_body Tryz.func74 rfl (by kernel_rfl) ?_;simp only [entry,Tryz.ntmps74,A0q];refine zU ?_;refine zR Qv6 (zc hR (zc hE Qv6)) Qv6 ?_;simp [A00,A0z,Blk.cells,ty,Tryz.results74,A0v,A0w,toT,A0d,A0b,A0c,A0a,A0x]
def C3m:ACall Tryz.prog 22 [tR tgR,A0q [0,1],A0q [1,-1,0]] (.tup [A0q [1,2],A0n 0]):=by
 have hg:=A9A tgR [0,1] B0Z (by decide);rw [B6p] at hg;have hC:=B3r [1,-1,0] 3 (by decide);rw [show B7U [1,-1,0] 3=0 by decide] at hC
 have hD:=B7A [1,-1,0] 3 (by decide) (by decide) rfl (fun v=>by
  match v with
  | 0=>decide
  | 1=>decide
  | 2=>decide
  | v+3=>exact ⟨by simp,by simp⟩)
 rw [show C1n [1,-1,0] 3=0 by decide] at hD;have hAl:=B1M tgR.g (by decide) (by have:=B6q; omega);rw [if_neg (by rw [show A0t tgR.g=0 from C6W]; simp),show A0t tgR.g=0 from C6W] at hAl;have hdv:=A2C tgR [0,1] B0Z (B1I B6p).1 (by decide);change ACall _ _ _ (A0q (A2l tgR [0,1])) at hdv;rw [B6n] at hdv
 have hAd:=C6D [1,-1,0] [0,1,0] 3 (by decide) (by decide) rfl rfl (fun v=>by
  match v with
  | 0=>decide
  | 1=>decide
  | 2=>decide
  | v+3=>exact ⟨by simp,by simp⟩) (fun v=>by
  match v with
  | 0=>decide
  | 1=>decide
  | 2=>decide
  | v+3=>exact ⟨by simp,by simp⟩) (fun v hv=>by
  match v with
  | 0=>decide
  | 1=>decide
  | 2=>decide
  | v+3=>omega)
 rw [show B2d [1,-1,0] [0,1,0] 3 3=[1,0,0] by decide] at hAd;obtain ⟨S,hW⟩:=C3O (d:=[1,0,0]) (.inl rfl)
 have hF:=C0U tgR B0Z (tI (treesG tgR.g)) (by rw [B0S,B6q]; decide) (fun u hu=>⟨(A2y B37 hu).1,by have:=(A2y B37 hu).2; have e:tgR.n.toNat=3:=rfl; omega⟩) 74 [.int .i64 3,.slice (A0f tgE),.slice (A0u [[0,2],[1,4],[3,5]])] [.slice (A0p [1,0,0])] (fun x=>decide (x=[1,0,0])) (fun u hu=>by
  obtain ⟨U,hU,rfl⟩:=QJ.1 hu;rcases C6N hU with rfl | rfl | rfl
  ·have e:A2l tgR (List.map (fun x:Nat=>(x:Int)) [0,1])=[0,1,0]:=B6n;rw [e]; exact B1V (.inr (.inl rfl))
  ·have e:A2l tgR (List.map (fun x:Nat=>(x:Int)) [0,2])=[0,0,1]:=B6o;rw [e]; exact B1V (.inr (.inr rfl))
  ·have e:A2l tgR (List.map (fun x:Nat=>(x:Int)) [1,2])=[1,0,0]:=C1h
   rw [e]; exact B1V (.inl rfl))
 have hT:=C3N;unfold trT at hT;rw [hT] at hF;have e1:B77 (some [1,2])=[1,2]:=rfl;have e2:B78 (some [1,2])=0:=rfl;rw [e1,e2] at hF;clear hT e1 e2;generalize tI (treesG tgR.g)=Ts at*;have q1:tR tgR=tR ⟨3,tgE,[[0,2],[1,4],[3,5]]⟩:=rfl;have q2:tG tgR.g=tG ⟨3,tgE⟩:=rfl;rw [q1] at hg hdv hF ⊢;rw [q2] at hAl;generalize tgE=es at*;generalize ([[0,2],[1,4],[3,5]]:List (List Int))=ar at*;generalize ([1,2]:List Int)=V at*;generalize ([1,-1,0]:List Int)=D at*;generalize ([1,0,0]:List Int)=W at*;generalize ([0,1,0]:List Int)=DD at*;generalize ([0,1]:List Int)=t at*;refine ACall.of_body Tryz.func22 rfl (by kernel_rfl) ?_;simp only [entry,Tryz.ntmps22,tR,A0q];refine zU ?_;refine zJ (stop 19) Qv6 (zc hg (zc hC (zc hD (zc hAl (zc hdv (zc hAd (zc hW Qv6))))))) Qv6 Qv6 ?_;refine AWp.freezeP 3 0 rfl rfl (ts:=[.int .i64 3,.slice (A0f es),.slice (A0u ar)]) rfl ?_;refine AWp.freezeP 15 1 rfl rfl (ts:=[.slice (A0p W)]) rfl ?_;simp only [List.set_cons_succ,List.set_cons_zero];refine zR Qv6 (zc hF Qv6) Qv6 ?_;simp [A00,A0z,Blk.cells,ty,Tryz.results22,A0v,A0w,toT,A0d,A0b,A0c,A0a,A0n,A0q]
noncomputable def B7F (g:G):Bool:=A1S g 5 8&&(decide (A0t g≠0)||decide ((A9F g).length≤24))
def C3n (g:G) (hsm:A1S g 5 8=true->g.es.length≤40∧(checkG g=0->(endsL g.es).length≤8)):ACall Tryz.prog 18 [tG g] (A0x (B7F g)):=by
 have hF:=C5z g;unfold B7F;cases hb:A1S g 5 8 with
 | false=>
  rw [hb] at hF;rw [Qq4];clear hsm hb;obtain ⟨n,es⟩:=g;refine ACall.of_body Tryz.func18 rfl (by kernel_rfl) ?_;simp only [entry,Tryz.ntmps18,tG];refine zU ?_;refine zR Qv6 (zc hF Qv6) Qv6 ?_;simp [A00,A0z,Blk.cells,ty,Tryz.results18,A0v,A0w,toT,A0d,A0b,A0c,A0a,A0x]
 | true=>
  rw [hb] at hF;rw [VY];obtain ⟨h1,h2⟩:=hsm hb;have hJ:=A7N g h1;by_cases h0:A0t g=0
  ·obtain ⟨hc,-⟩:=A3G h0;have hA:=C0R g hc h1 (by have:=h2 hc; omega);rw [h0] at hJ ⊢;rw [decide_eq_false (by simp),Qq3];generalize A9F g=Ts at*;clear h2 hb h0;obtain ⟨n,es⟩:=g;by_cases hl:Ts.length≤24
   ·have hlI:(Ts.length:Int)≤24:=by omega
    rw [decide_eq_true hl];refine ACall.of_body Tryz.func18 rfl (by kernel_rfl) ?_;simp only [entry,Tryz.ntmps18,tG];refine zU ?_;refine zR (zc @hlI (zc @A0o Qv6)) (zc hF (zc hJ (zc hA Qv6))) Qv6 ?_;simp [A00,A0z,Blk.cells,ty,Tryz.results18,A0v,A0w,toT,A0d,A0b,A0c,A0a,A0x]
   ·have hlI: ¬(Ts.length:Int)≤24:=by omega
    rw [decide_eq_false hl];refine ACall.of_body Tryz.func18 rfl (by kernel_rfl) ?_;simp only [entry,Tryz.ntmps18,tG];refine zU ?_;refine zR (zc @hlI (zc @A0o Qv6)) (zc hF (zc hJ (zc hA Qv6))) Qv6 ?_;simp [A00,A0z,Blk.cells,ty,Tryz.results18,A0v,A0w,toT,A0d,A0b,A0c,A0a,A0x]
  ·rw [decide_eq_true h0,Bool.true_or];generalize A0t g=e at*;clear h2 hb;obtain ⟨n,es⟩:=g;refine ACall.of_body Tryz.func18 rfl (by kernel_rfl) ?_;simp only [entry,Tryz.ntmps18,tG];refine zU ?_;refine zR (zc @h0 Qv6) (zc hF (zc hJ Qv6)) Qv6 ?_;simp [A00,A0z,Blk.cells,ty,Tryz.results18,A0v,A0w,toT,A0d,A0b,A0c,A0a,A0x]
def B1W:ACall Tryz.prog 50 [] (tR tgR):=by
 refine ACall.of_body Tryz.func50 rfl (by kernel_rfl) ?_;simp only [entry,Tryz.ntmps50];refine zU ?_;refine zRc Qv6 Qv6 Qv6 ?_;simp [A00,A0z,Blk.cells,ty,Tryz.results50,A0v,A0w,toT,A0d,A0b,A0c,A0a,tR,tG,A0f,C1L,A0u,A0p,tgR]
def B7G:ACall Tryz.prog 11 [] (A0x true):=by
 have hT:=B1W;have c1:=C0C tgR [0,1] B0Z (by decide);rw [if_neg (by rw [B6p]; simp),C5A,B6p] at c1;have c2:=A7P tgR [0,2] B0Z (by decide);rw [if_neg (by rw [C3L]; simp),B6o,C3L] at c2;have c3:=C1d tgG (by decide) (fun _=>by have:=B6q; show (treesG tgR.g).length≤16384; omega);rw [if_neg (by rw [C6W]; simp),C6L,C6W] at c3;have c4:=B35 tgR [1,0,0] B0Z (fun _=>by have:=B6q; omega) (by decide) (fun _=>B37);rw [if_neg (by rw [C3M]; simp),if_neg (by rw [C3M]; simp),C3N] at c4;have c5:=C3m;have s1:=B1x [0,4,1,2,5,3] [0,4,1,2,5,3] (by decide) (by decide);have s2:=A9y [0,0,1] [0,0,1] (by decide) (by decide);have s3:=A7L [[0,0,1],[0,1,0],[1,0,0]] [[0,0,1],[0,1,0],[1,0,0]] (by decide) (by decide) (by decide) (by decide);have s4:=B1x [1,2] [1,2] (by decide) (by decide);rw [decide_eq_true rfl] at s1 s2 s3 s4;have e4:B78 (some [1,2])=0:=rfl;have v4:B77 (some [1,2])=[1,2]:=rfl;rw [e4,v4] at c4;unfold tR at hT c1 c2 c4 c5;have hg:tG tgG=tG tgR.g:=rfl;rw [hg] at c3;unfold tG at c3;unfold A0S at c3 s3;have hk1:tgR.n=3:=rfl;have hk2:tgR.g.n=3:=rfl;have hk3:tgR.g.es=tgR.es:=rfl;rw [hk1] at hT c1 c2 c4 c5;rw [hk2,hk3] at c3;generalize tgR.es=es at hT c1 c2 c3 c4 c5;generalize tgR.ar=ar at hT c1 c2 c3 c4 c5;refine ACall.of_body Tryz.func11 rfl (by kernel_rfl) ?_;simp only [entry,Tryz.ntmps11];refine zU ?_;refine zMc Qv6 Qv6 (zc hT (zc c1 (zc c2 (zc c3 (zc c4 (zc c5 (zc s1 (zc s2 (zc s3 (zc s4 Qv6)))))))))) Qv6 Qv6 (ed fun hp hpc=>?_);simp [A00,A0z,Blk.cells,ty,Tryz.results11,A0v,A0w,toT,A0d,A0b,A0c,A0a,A0x]
def A9H {g:G} (h:A1S g 5 8=true):g.es.length≤40∧(checkG g=0->(endsL g.es).length≤8∧g.n≤5):=by
 unfold A1S at h;simp only [XJ,Wx,decide_eq_true_eq] at h;refine ⟨h.1,fun hc=> ?_⟩;rcases h.2 with q | q
 ·exact absurd hc q
 ·exact ⟨by have:=q.2; omega,q.1⟩
def B7H (g:G):A1S g 5 8=true->g.es.length≤40∧(checkG g=0->(endsL g.es).length≤8):=fun h=>⟨(A9H h).1,fun hc=>((A9H h).2 hc).1⟩
def B7I {g:G} (h:B7F g=true):A1S g 5 8=true∧(A0t g=0->(treesG g).length≤24):=by
 unfold B7F at h;rw [XJ,Wx,decide_eq_true_eq,decide_eq_true_eq] at h;refine ⟨h.1,fun hj=> ?_⟩;rcases h.2 with q | q
 ·exact absurd hj q
 ·rw [<-C3i (A3G hj).1,B0S] at q; exact q
noncomputable def C6P (r:R):Bool:=C5K r&&(B7F r.g&&decide (ribE r=0))
structure RightS (r:R):Prop where
 hs:RSm r
 rib:ribE r=0
 rok:ROk r
 ends:(endsL r.es).length≤8
 ver:r.n≤5
 few:(treesG r.g).length≤24
def B7J {r:R} (h:C6P r=true):RightS r:=by
 unfold C6P at h;simp only [XJ,decide_eq_true_eq] at h;obtain ⟨h1,h2,h3⟩:=h;have hr:=B5A h3;obtain ⟨f1,f2⟩:=B7I h2;obtain ⟨g1,g2⟩:=A9H f1;have hj:A0t r.g=0:=by unfold A0t; rw [if_neg (by have:=hr.c; omega),if_pos hr.conn]
 exact ⟨C02 h1,h3,hr,(g2 hr.c).1,(g2 hr.c).2,f2 hj⟩
def B7K (r:R):ACall Tryz.prog 24 [tR r] (A0x (C6P r)):=by
 have f1:=C5j r;have f2:=C3n r.g (B7H r.g);unfold C6P;cases h1:C5K r with
 | false=>
  rw [h1] at f1;rw [Qq4];clear h1 f2;obtain ⟨n,es,ar⟩:=r;refine ACall.of_body Tryz.func24 rfl (by kernel_rfl) ?_;simp only [entry,Tryz.ntmps24,tR];refine zU ?_;refine zR Qv6 (zc f1 Qv6) Qv6 ?_;simp [A00,A0z,Blk.cells,ty,Tryz.results24,A0v,A0w,toT,A0d,A0b,A0c,A0a,A0x]
 | true=>
  rw [h1] at f1;rw [VY];have hC:=B4C r (C02 h1);cases h2:B7F r.g with
  | false=>
   rw [h2] at f2;rw [Qq4];clear h1 h2 hC;obtain ⟨n,es,ar⟩:=r;have f3:ACall Tryz.prog 18 [tG ⟨n,es⟩] (A0x false):=f2;refine ACall.of_body Tryz.func24 rfl (by kernel_rfl) ?_;simp only [entry,Tryz.ntmps24,tR];refine zU ?_;refine zR Qv6 (zc f1 (zc f3 Qv6)) Qv6 ?_;simp [A00,A0z,Blk.cells,ty,Tryz.results24,A0v,A0w,toT,A0d,A0b,A0c,A0a,A0x]
  | true=>
   rw [h2] at f2;rw [VY];clear h1 h2;generalize ribE r=e at*;obtain ⟨n,es,ar⟩:=r;have f3:ACall Tryz.prog 18 [tG ⟨n,es⟩] (A0x true):=f2;refine ACall.of_body Tryz.func24 rfl (by kernel_rfl) ?_;simp only [entry,Tryz.ntmps24,tR];refine zU ?_;refine zR Qv6 (zc f1 (zc f3 (zc hC Qv6))) Qv6 ?_;simp [A00,A0z,Blk.cells,ty,Tryz.results24,A0v,A0w,toT,A0d,A0b,A0c,A0a,A0x]
end Go.Proofs.YtdbdfkohpjefjaaGreat
