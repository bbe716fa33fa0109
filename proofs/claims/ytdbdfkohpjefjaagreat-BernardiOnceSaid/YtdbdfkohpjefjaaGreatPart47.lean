/- A part of the proof. -/
import Derived.Test.YtdbdfkohpjefjaaGreatPart45
import Derived.Test.YtdbdfkohpjefjaaGreatPart46
set_option linter.all false
set_option maxHeartbeats 4000000
set_option maxRecDepth 100000
namespace Go.Proofs.YtdbdfkohpjefjaaGreat
open Go.Sp
theorem C0q {r:R} {t:List Int} {p:Nat->Nat} (P:TourP (2*(endsL r.es).length) (A7e (sR (endsL r.es) r.ar) (A6H t)) (beginR r) p) {v:Nat} (hv:v<r.n.toNat):(A3n r t).getD v 0=B2u (endsL r.es).length (gR (endsL r.es)) p (A6H t) v:=by
 have h:=A6B r t (2*(endsL r.es).length) hv;unfold A3n;rw [Qz,h,Option.getD_some];exact C1U P v
theorem C2s {r:R} (hr:ROk r) {T:List Nat} (hT:T∈treesG r.g) (hE:(endsL r.es).length≠0): ∃p,TourP (2*(endsL r.es).length) (A7e (sR (endsL r.es) r.ar) (A6H (zI T))) (beginR r) p:=by
 obtain ⟨h1,h2⟩:=A5y hr hT;exact B5o hr h1 h2 (B5r hr hE)
theorem C0r {r:R} (hr:ROk r) {T:List Nat} (hT:T∈treesG r.g):BrkD (endsL r.es).length r.n.toNat (gR (endsL r.es)) (fun v=>(A3n r (zI T)).getD v 0):=by
 obtain ⟨t1,t2⟩:=A5y hr hT;by_cases hE:(endsL r.es).length=0
 ·have hB:BrkD (endsL r.es).length r.n.toNat (gR (endsL r.es)) (C4G (endsL r.es).length (gR (endsL r.es)) (fun f=>2*f) (A6H (zI T))):=C4m (fun e he=> .inl rfl) (A59 hr).lt (B20 hr t1 t2);refine hB.congr fun v hv=> ?_;have h:=A6B r (zI T) (2*(endsL r.es).length) hv;unfold A3n;rw [Qz,h,Option.getD_some,hE];rfl
 ·obtain ⟨p,P⟩:=C2s hr hT hE;have hB:=C1O (p:=p) (A59 hr).lt (B20 hr t1 t2);exact hB.congr fun v hv=>(C0q P hv).symm
def eqvL (n:Nat) (es:List E) (x y:List Int):Prop:=C69 n (mulE es) (fun v=>x.getD v 0) (fun v=>y.getD v 0)
theorem C42 {r:R} {q:List Int->Bool} {T:List Nat} (hT:T∈treesG r.g) (hq:q (A3n r (zI T))=true) (hu: ∀T',T'∈treesG r.g->q (A3n r (zI T'))=true->T'=T):C2j r q (tI (treesG r.g))=some (zI T):=by
 unfold C2j;cases h:(tI (treesG r.g)).find? (fun t=>q (A3n r t)) with
 | none=>
  rw [List.find?_eq_none] at h;exact absurd hq (h (zI T) (QJ.2 ⟨T,hT,rfl⟩))
 | some t=>
  have h1:=List.find?_some h;obtain ⟨T',hT',e⟩:=QJ.1 (List.mem_of_find?_eq_some h);subst e;rw [hu T' hT' h1]; rfl
theorem C2t {r:R} {t:List Int} (h:B0t r t=0): ∃T,T∈treesG r.g∧t=zI T:=by
 obtain ⟨hT,hl⟩:=A69 h;have hr:=hT.ok;have hs:A2h (endsL r.es).length none t=0:=by
  unfold B0t at h;by_cases h1:ribE r≠0
  ·rw [if_pos h1] at h; exact absurd h h1
  ·rw [if_neg h1] at h;unfold A2A at h;split at h
   ·omega
   ·split at h
    ·exact h
    ·rename_i h2;exact Classical.not_not.1 h2
 obtain ⟨s1,s2,-⟩:=B0k hs;have e:t=zI (t.map Int.toNat):=by
  unfold zI;rw [Vv];conv=>lhs; rw [<-List.map_id t]
  exact Wk fun x hx=>by have:=s1 x hx; simp only [id_eq,Function.comp]; omega
 have hp:(t.map Int.toNat).Pairwise (·< ·):=Jj.2 (s2.imp_of_mem fun {a b} ha hb hab=>by have:=s1 a ha; have:=s1 b hb; omega);have hlt: ∀x,x∈t.map Int.toNat->x<(endsL r.es).length:=fun x hx=>by
  obtain ⟨a,ha,rfl⟩:=QJ.1 hx;have:=s1 a ha; omega
 have hb:=hT.tree;rw [e] at hb;have h3:=(A5x (A2B hr) (A9e hr) hlt).1 hb;exact ⟨_,A2K.2 ⟨hp,hlt,h3.1,h3.2⟩,e⟩
theorem B54 {r:R} (h:ribE r=0) {T:List Nat} (hT:T∈treesG r.g):B0t r (zI T)=0:=by
 have hr:=B4M h;obtain ⟨h1,h2⟩:=A5y hr hT;have h3:=A2K.1 hT;have hj:A0r r.g=0:=by unfold A0r; rw [if_neg (by have:=hr.c; omega),if_pos hr.conn]
 have hs:A2h (endsL r.g.es).length none (zI T)=0:=A8R h1 (Jj.2 (h3.1.imp fun {a b} hab=>by omega)) (fun w hw=>by cases hw);have hn:=A2B hr;unfold B0t;rw [if_neg (by omega)];unfold A2A;rw [if_neg (by omega),if_neg (by omega),if_neg ?_,if_pos (show treeB r.g.n.toNat (endsL r.g.es) (zI T)=true from h2)];have hl:(zI T).length=T.length:=by unfold zI; rw [Zq]
 have h4:T.length+1=r.n.toNat:=h3.2.2.1;have e:r.g.n=r.n:=rfl;rw [hl,e]; omega
theorem C43 {r:R} (hr:ROk r) {T:List Nat} (hT:T∈treesG r.g):sumR (fun v=>(A3n r (zI T)).getD v 0) r.n.toNat=((endsL r.es).length:Int)-r.n.toNat+1:=(C0r hr hT).deg
def tgG:G:=⟨3,[⟨0,1,1⟩,⟨0,2,1⟩,⟨1,2,1⟩]⟩
def tgR:R:=⟨3,[⟨0,1,1⟩,⟨0,2,1⟩,⟨1,2,1⟩],[[0,2],[1,4],[3,5]]⟩
theorem B55:ribE tgR=0:=by decide+kernel
theorem B2M:ROk tgR:=B4M B55
theorem C5U:A0r tgG=0:=by decide+kernel
theorem C44:endsL tgR.es=[(0,1),(0,2),(1,2)]:=by decide+kernel
theorem C45 {t:List Int} {es:List E} (he:endsL es=pkL (endsL tgR.es) t) (hl:t.length=2) (hc:checkG ⟨3,es⟩=0) (hb:connB ⟨3,es⟩=true):treeB 3 (endsL tgR.es) t=true:=by
 have h:=A2O (g:=⟨3,es⟩) (n:=3) hc rfl;rw [hb] at h;have h2:=of_decide_eq_true h.symm;unfold treeB;refine decide_eq_true ⟨by rw [hl]; rfl,?_⟩;rw [<-he]; exact h2
theorem C0s {T:List Nat} (hp:T.Pairwise (·< ·)) (hlt: ∀x,x∈T->x<3) (hb:treeB 3 (endsL tgR.es) (zI T)=true):T∈treesG tgR.g:=by
 have hlt2: ∀x,x∈T->x<(endsL tgR.es).length:=fun x hx=>by rw [C44]; exact hlt x hx
 have h3:=(A5x (A2B B2M) (A9e B2M) hlt2).1 hb;exact A2K.2 ⟨hp,hlt2,h3.1,h3.2⟩
theorem C5F:[0,1]∈treesG tgR.g:=C0s (by decide) (by decide) (C45 (es:=[⟨0,1,1⟩,⟨0,2,1⟩]) (by decide+kernel) rfl (by decide+kernel) (by decide+kernel))
theorem C5G:[0,2]∈treesG tgR.g:=C0s (by decide) (by decide) (C45 (es:=[⟨0,1,1⟩,⟨1,2,1⟩]) (by decide+kernel) rfl (by decide+kernel) (by decide+kernel))
theorem C5H:[1,2]∈treesG tgR.g:=C0s (by decide) (by decide) (C45 (es:=[⟨0,2,1⟩,⟨1,2,1⟩]) (by decide+kernel) rfl (by decide+kernel) (by decide+kernel))
theorem B56:A3n tgR [0,1]=[0,1,0]:=by decide+kernel
theorem B57:A3n tgR [0,2]=[0,0,1]:=by decide+kernel
theorem C0t:A3n tgR [1,2]=[1,0,0]:=by decide+kernel
theorem C46:tourL tgR [0,1] (2*(endsL tgR.es).length)=[0,4,1,2,5,3]:=by decide+kernel
theorem C2N:zI [0,1]=[0,1]:=by decide
theorem C2O:zI [0,2]=[0,2]:=by decide
theorem C2P:zI [1,2]=[1,2]:=by decide
theorem B58:B0t tgR [0,1]=0:=by
 have h:=B54 B55 C5F;rw [C2N] at h; exact h
theorem C2Q:B0t tgR [0,2]=0:=by
 have h:=B54 B55 C5G;rw [C2O] at h; exact h
theorem B4k:(treesG tgR.g).Perm [[0,1],[0,2],[1,2]]:=by
 have hnT:(treesG tgR.g).Nodup:=A9d (show A4t (pkN (endsL tgR.g.es) []) from A4i);refine (Vy hnT (by decide)).2 fun T=>⟨fun h=> ?_,fun h=> ?_⟩
 ·obtain ⟨h1,h2,h3,-⟩:=A2K.1 h;have e3:(endsL tgR.g.es).length=3:=by decide+kernel
  rw [e3] at h2
  match T,h1,h2,h3 with
  | [a,b],h1,h2,h3=>
   have hb:=h2 b (by simp);have hab:a<b:=by simpa using h1
   have:(a=0∧b=1)∨(a=0∧b=2)∨(a=1∧b=2):=by omega
   rcases this with ⟨rfl,rfl⟩ | ⟨rfl,rfl⟩ | ⟨rfl,rfl⟩<;>decide
  | [],_,_,h3=>cases h3
  | [a],_,_,h3=>cases h3
  | a::b::c::T,_,_,h3=>
   have e:tgR.g.n.toNat=3:=rfl;rw [e] at h3;simp at h3
 ·simp only [Qw,Qk,or_false] at h;rcases h with rfl | rfl | rfl
  ·exact C5F
  ·exact C5G
  ·exact C5H
theorem B59:(treesG tgR.g).length=3:=by rw [B4k.length_eq]; rfl
theorem C5I:B6W tgG=tgR:=by
 have e:A1h (endsL tgG.es) tgG.n.toNat (2*(endsL tgG.es).length)=[[0,2],[1,4],[3,5]]:=by decide+kernel
 unfold B6W;rw [e]; rfl
theorem C5J:sortLL (C5E tgG)=[[0,0,1],[0,1,0],[1,0,0]]:=by
 refine (A66 (by decide) ?_).symm;have e:C5E tgG=(treesG tgR.g).map fun T=>A3n tgR (zI T):=by unfold C5E tI; rw [Vv,C5I]; rfl
 rw [e];refine (List.Perm.trans (B4k.map _) ?_).symm;have e2:([[0,1],[0,2],[1,2]]:List (List Nat)).map (fun T=>A3n tgR (zI T))=[A3n tgR [0,1],A3n tgR [0,2],A3n tgR [1,2]]:=rfl;rw [e2,B56,B57,C0t];decide
theorem C5K:B9O tgR.g [1,0,0]=true:=by decide+kernel
theorem C2R:trE tgR [1,0,0]=0:=by
 unfold trE;rw [if_neg (by rw [B55]; simp),if_neg (by decide),if_pos C5K]
theorem C5L {T:List Nat} (h:T∈treesG tgR.g):T=[0,1]∨T=[0,2]∨T=[1,2]:=by
 have:=B4k.mem_iff.1 h;simpa using this
theorem C2S:trT tgR [1,0,0]=some [1,2]:=by
 have h:=C42 (r:=tgR) (q:=fun x=>decide (x=[1,0,0])) (T:=[1,2]) C5H (by rw [C2P]; exact decide_eq_true C0t) fun T' hT' h=>by
  have h1:=of_decide_eq_true h;rcases C5L hT' with rfl | rfl | rfl
  ·rw [C2N,B56] at h1; exact absurd h1 (by decide)
  ·rw [C2O,B57] at h1; exact absurd h1 (by decide)
  ·rfl
 rw [C2P] at h; exact h
theorem B02:RSm tgR:=B9x (by decide)
def tgE:List E:=[⟨0,1,1⟩,⟨0,2,1⟩,⟨1,2,1⟩]
theorem C5M:EsOk 3 tgE:=⟨fun e he=>by
 unfold tgE at he;simp only [Qw,Qk,or_false] at he
 rcases he with rfl | rfl | rfl<;>decide⟩
theorem C2T {d:List Int} (hd:d=[1,0,0]∨d=[0,1,0]∨d=[0,0,1]): ∃S,ACall Tryz.prog 73 [tG ⟨3,tgE⟩,A0k 0,A0m d] (.tup [A0m d,A0m S,A0k 0]):=by
 have hB: ∃B,BEnd tgE d 3 (A9h 3 0) B∧B.length=3∧A6A B 3=false:=by
  rcases hd with rfl | rfl | rfl
  ·exact ⟨_,.go (by decide+kernel) (.stop (by decide+kernel)),by decide+kernel,by decide+kernel⟩
  ·exact ⟨_,.go (by decide+kernel) (.go (by decide+kernel) (.stop (by decide+kernel))),by decide+kernel,by decide+kernel⟩
  ·exact ⟨_,.go (by decide+kernel) (.stop (by decide+kernel)),by decide+kernel,by decide+kernel⟩
 obtain ⟨B,b1,b2,b3⟩:=hB;have hv: ∀v,0≤d.getD v 0∧d.getD v 0≤1:=fun v=>by
  rcases hd with rfl | rfl | rfl
  all_goals
   match v with
   | 0=>decide
   | 1=>decide
   | 2=>decide
   | v+3=>exact ⟨by simp,by simp⟩
 have hl:d.length=3:=by rcases hd with rfl | rfl | rfl<;>rfl
 exact ⟨_,B6Z 3 0 tgE d (by decide) (by decide) (by decide) hl (by decide) C5M (by decide+kernel) (by decide+kernel) (fun v=>by have:=hv v; omega) (fun v _ _=>(hv v).1) B b1 b2 b3⟩
theorem B1m {x:List Int} (hx:x=[1,0,0]∨x=[0,1,0]∨x=[0,0,1]):
  ACall Tryz.prog 74 [A0m x,.t (.rptr [.int .i64 3,.slice (A0f tgE),.slice (A00 [[0,2],[1,4],[3,5]])]),.t (.rptr [.slice (A0p [1,0,0])])] (A0z (decide (x=[1,0,0]))):=by
 obtain ⟨S,hR⟩:=C2T hx;have hE:=A8Y x [1,0,0] (by rcases hx with rfl | rfl | rfl<;>decide) (by decide);generalize decide (x=[1,0,0])=b at*;generalize ([1,0,0]:List Int)=W at*;generalize tgE=es at*;generalize ([[0,2],[1,4],[3,5]]:List (List Int))=ar at*;refine ACall.of_body Tryz.func74 rfl (by kernel_rfl) ?_;simp only [entry,Tryz.ntmps74,A0m];refine zU ?_;refine zR Qw9 (zc hR (zc hE Qw9)) Qw9 ?_;simp [A0y,A0x,Blk.cells,ty,Tryz.results74,A0s,A0t,toT,A0d,A0b,A0c,A0a,A0z]
theorem C2u:ACall Tryz.prog 22 [tR tgR,A0m [0,1],A0m [1,-1,0]] (.tup [A0m [1,2],A0k 0]):=by
 have hg:=A9g tgR [0,1] B02 (by decide);rw [B58] at hg;have hC:=A9f [1,-1,0] 3 (by decide);rw [show B4e [1,-1,0] 3=0 by decide] at hC
 have hD:=B6V [1,-1,0] 3 (by decide) (by decide) rfl (fun v=>by
  match v with
  | 0=>decide
  | 1=>decide
  | 2=>decide
  | v+3=>exact ⟨by simp,by simp⟩)
 rw [show A91 [1,-1,0] 3=0 by decide] at hD;have hAl:=B4j tgR.g (by decide) (by have:=B59; omega);rw [if_neg (by rw [show A0r tgR.g=0 from C5U]; simp),show A0r tgR.g=0 from C5U] at hAl;have hdv:=A25 tgR [0,1] B02 (A69 B58).1 (by decide);change ACall _ _ _ (A0m (A3n tgR [0,1])) at hdv;rw [B56] at hdv
 have hAd:=C5A [1,-1,0] [0,1,0] 3 (by decide) (by decide) rfl rfl (fun v=>by
  match v with
  | 0=>decide
  | 1=>decide
  | 2=>decide
  | v+3=>exact ⟨by simp,by simp⟩) (fun v=>by
  match v with
  | 0=>decide
  | 1=>decide
  | 2=>decide
  | v+3=>exact ⟨by simp,by simp⟩) (fun v hv=>by
  match v with
  | 0=>decide
  | 1=>decide
  | 2=>decide
  | v+3=>omega)
 rw [show B1s [1,-1,0] [0,1,0] 3 3=[1,0,0] by decide] at hAd;obtain ⟨S,hW⟩:=C2T (d:=[1,0,0]) (.inl rfl)
 have hF:=C0e tgR B02 (tI (treesG tgR.g)) (by rw [B2K,B59]; decide) (fun u hu=>⟨(A3m B2M hu).1,by have:=(A3m B2M hu).2; have e:tgR.n.toNat=3:=rfl; omega⟩) 74 [.int .i64 3,.slice (A0f tgE),.slice (A00 [[0,2],[1,4],[3,5]])] [.slice (A0p [1,0,0])] (fun x=>decide (x=[1,0,0])) (fun u hu=>by
  obtain ⟨U,hU,rfl⟩:=QJ.1 hu;rcases C5L hU with rfl | rfl | rfl
  ·have e:A3n tgR (List.map (fun x:Nat=>(x:Int)) [0,1])=[0,1,0]:=B56;rw [e]; exact B1m (.inr (.inl rfl))
  ·have e:A3n tgR (List.map (fun x:Nat=>(x:Int)) [0,2])=[0,0,1]:=B57;rw [e]; exact B1m (.inr (.inr rfl))
  ·have e:A3n tgR (List.map (fun x:Nat=>(x:Int)) [1,2])=[1,0,0]:=C0t
   rw [e]; exact B1m (.inl rfl))
 have hT:=C2S;unfold trT at hT;rw [hT] at hF;have e1:B6T (some [1,2])=[1,2]:=rfl;have e2:B6U (some [1,2])=0:=rfl;rw [e1,e2] at hF;clear hT e1 e2;generalize tI (treesG tgR.g)=Ts at*;have q1:tR tgR=tR ⟨3,tgE,[[0,2],[1,4],[3,5]]⟩:=rfl;have q2:tG tgR.g=tG ⟨3,tgE⟩:=rfl;rw [q1] at hg hdv hF ⊢;rw [q2] at hAl;generalize tgE=es at*;generalize ([[0,2],[1,4],[3,5]]:List (List Int))=ar at*;generalize ([1,2]:List Int)=V at*;generalize ([1,-1,0]:List Int)=D at*;generalize ([1,0,0]:List Int)=W at*;generalize ([0,1,0]:List Int)=DD at*;generalize ([0,1]:List Int)=t at*;refine ACall.of_body Tryz.func22 rfl (by kernel_rfl) ?_;simp only [entry,Tryz.ntmps22,tR,A0m];refine zU ?_;refine zJ (stop 19) Qw9 (zc hg (zc hC (zc hD (zc hAl (zc hdv (zc hAd (zc hW Qw9))))))) Qw9 Qw9 ?_;refine AWp.freezeP 3 0 rfl rfl (ts:=[.int .i64 3,.slice (A0f es),.slice (A00 ar)]) rfl ?_;refine AWp.freezeP 15 1 rfl rfl (ts:=[.slice (A0p W)]) rfl ?_;simp only [List.set_cons_succ,List.set_cons_zero];refine zR Qw9 (zc hF Qw9) Qw9 ?_;simp [A0y,A0x,Blk.cells,ty,Tryz.results22,A0s,A0t,toT,A0d,A0b,A0c,A0a,A0k,A0m]
noncomputable def B7a (g:G):Bool:=A1R g 5 8&&(decide (A0r g≠0)||decide ((A9i g).length≤24))
theorem C2v (g:G) (hsm:A1R g 5 8=true->g.es.length≤40∧(checkG g=0->(endsL g.es).length≤8)):ACall Tryz.prog 18 [tG g] (A0z (B7a g)):=by
 have hF:=C4u g;unfold B7a;cases hb:A1R g 5 8 with
 | false=>
  rw [hb] at hF;rw [VW];clear hsm hb;obtain ⟨n,es⟩:=g;refine ACall.of_body Tryz.func18 rfl (by kernel_rfl) ?_;simp only [entry,Tryz.ntmps18,tG];refine zU ?_;refine zR Qw9 (zc hF Qw9) Qw9 ?_;simp [A0y,A0x,Blk.cells,ty,Tryz.results18,A0s,A0t,toT,A0d,A0b,A0c,A0a,A0z]
 | true=>
  rw [hb] at hF;rw [Vw];obtain ⟨h1,h2⟩:=hsm hb;have hJ:=A38 g h1;by_cases h0:A0r g=0
  ·obtain ⟨hc,-⟩:=A1W h0;have hA:=B9P g hc h1 (by have:=h2 hc; omega);rw [h0] at hJ ⊢;rw [decide_eq_false (by simp),Qq2];generalize A9i g=Ts at*;clear h2 hb h0;obtain ⟨n,es⟩:=g;by_cases hl:Ts.length≤24
   ·have hlI:(Ts.length:Int)≤24:=by omega
    rw [decide_eq_true hl];refine ACall.of_body Tryz.func18 rfl (by kernel_rfl) ?_;simp only [entry,Tryz.ntmps18,tG];refine zU ?_;refine zR (zc @hlI (zc @A0o Qw9)) (zc hF (zc hJ (zc hA Qw9))) Qw9 ?_;simp [A0y,A0x,Blk.cells,ty,Tryz.results18,A0s,A0t,toT,A0d,A0b,A0c,A0a,A0z]
   ·have hlI: ¬(Ts.length:Int)≤24:=by omega
    rw [decide_eq_false hl];refine ACall.of_body Tryz.func18 rfl (by kernel_rfl) ?_;simp only [entry,Tryz.ntmps18,tG];refine zU ?_;refine zR (zc @hlI (zc @A0o Qw9)) (zc hF (zc hJ (zc hA Qw9))) Qw9 ?_;simp [A0y,A0x,Blk.cells,ty,Tryz.results18,A0s,A0t,toT,A0d,A0b,A0c,A0a,A0z]
  ·rw [decide_eq_true h0,Bool.true_or];generalize A0r g=e at*;clear h2 hb;obtain ⟨n,es⟩:=g;refine ACall.of_body Tryz.func18 rfl (by kernel_rfl) ?_;simp only [entry,Tryz.ntmps18,tG];refine zU ?_;refine zR (zc @h0 Qw9) (zc hF (zc hJ Qw9)) Qw9 ?_;simp [A0y,A0x,Blk.cells,ty,Tryz.results18,A0s,A0t,toT,A0d,A0b,A0c,A0a,A0z]
theorem B1n:ACall Tryz.prog 50 [] (tR tgR):=by
 refine ACall.of_body Tryz.func50 rfl (by kernel_rfl) ?_;simp only [entry,Tryz.ntmps50];refine zU ?_;refine zRc Qw9 Qw9 Qw9 ?_;simp [A0y,A0x,Blk.cells,ty,Tryz.results50,A0s,A0t,toT,A0d,A0b,A0c,A0a,tR,tG,A0f,C0V,A00,A0p,tgR]
theorem B7b:ACall Tryz.prog 11 [] (A0z true):=by
 have hT:=B1n;have c1:=B29 tgR [0,1] B02 (by decide);rw [if_neg (by rw [B58]; simp),C46,B58] at c1;have c2:=A72 tgR [0,2] B02 (by decide);rw [if_neg (by rw [C2Q]; simp),B57,C2Q] at c2;have c3:=C41 tgG (by decide) (fun _=>by have:=B59; show (treesG tgR.g).length≤16384; omega);rw [if_neg (by rw [C5U]; simp),C5J,C5U] at c3;have c4:=C0n tgR [1,0,0] B02 (fun _=>by have:=B59; omega) (by decide) (fun _=>B2M);rw [if_neg (by rw [C2R]; simp),if_neg (by rw [C2R]; simp),C2S] at c4;have c5:=C2u;have s1:=B4F [0,4,1,2,5,3] [0,4,1,2,5,3] (by decide) (by decide);have s2:=A8Y [0,0,1] [0,0,1] (by decide) (by decide);have s3:=B2p [[0,0,1],[0,1,0],[1,0,0]] [[0,0,1],[0,1,0],[1,0,0]] (by decide) (by decide) (by decide) (by decide);have s4:=B4F [1,2] [1,2] (by decide) (by decide);rw [decide_eq_true rfl] at s1 s2 s3 s4;have e4:B6U (some [1,2])=0:=rfl;have v4:B6T (some [1,2])=[1,2]:=rfl;rw [e4,v4] at c4;unfold tR at hT c1 c2 c4 c5;have hg:tG tgG=tG tgR.g:=rfl;rw [hg] at c3;unfold tG at c3;unfold A0R at c3 s3;have hk1:tgR.n=3:=rfl;have hk2:tgR.g.n=3:=rfl;have hk3:tgR.g.es=tgR.es:=rfl;rw [hk1] at hT c1 c2 c4 c5;rw [hk2,hk3] at c3;generalize tgR.es=es at hT c1 c2 c3 c4 c5;generalize tgR.ar=ar at hT c1 c2 c3 c4 c5;refine ACall.of_body Tryz.func11 rfl (by kernel_rfl) ?_;simp only [entry,Tryz.ntmps11];refine zU ?_
 repeat' (first|((first|(refine zT ?_;intro K' hK')|(refine zG ?_ ?_<;>(try refine zH ?_)<;>intro hguard<;>(try exact zX)<;>try intro K' hK'))<;>((try simp+contextual only [go_sem,chunks,List.range,List.range.loop]);(repeat' first|(with_reducible refine hK' _ _ ?_;clear hK' K')|((with_reducible first|refine zK hT ?_|refine zK c1 ?_|refine zK c2 ?_|refine zK c3 ?_|refine zK c4 ?_|refine zK c5 ?_|refine zK s1 ?_|refine zK s2 ?_|refine zK s3 ?_|refine zK s4 ?_);try simp+contextual only [go_sem,chunks,List.range,List.range.loop])|exact zY|with_reducible refine Qw8 ?_ ?_|(with_reducible intro hpath;try exact zP)|(refine hK' _ _ ?_;clear hK' K')|fail);try refine zS ?_))|(refine zE ?_;refine hK _ _ ?_;clear hK K)|(refine zN ?_;try refine zS ?_)|refine zA ?_|(refine zB ?_;intro K hK)|(refine zC ?_ ?_<;>(try refine zH ?_)<;>intro hcond<;>try exact zX)|fail)
 simp [A0y,A0x,Blk.cells,ty,Tryz.results11,A0s,A0t,toT,A0d,A0b,A0c,A0a,A0z]
theorem A9n {g:G} (h:A1R g 5 8=true):g.es.length≤40∧(checkG g=0->(endsL g.es).length≤8∧g.n≤5):=by
 unfold A1R at h;simp only [XY,YV,decide_eq_true_eq] at h;refine ⟨h.1,fun hc=> ?_⟩;rcases h.2 with q | q
 ·exact absurd hc q
 ·exact ⟨by have:=q.2; omega,q.1⟩
theorem B7c (g:G):A1R g 5 8=true->g.es.length≤40∧(checkG g=0->(endsL g.es).length≤8):=fun h=>⟨(A9n h).1,fun hc=>((A9n h).2 hc).1⟩
theorem B7d {g:G} (h:B7a g=true):A1R g 5 8=true∧(A0r g=0->(treesG g).length≤24):=by
 unfold B7a at h;rw [XY,YV,decide_eq_true_eq,decide_eq_true_eq] at h;refine ⟨h.1,fun hj=> ?_⟩;rcases h.2 with q | q
 ·exact absurd hj q
 ·rw [<-C2o (A1W hj).1,B2K] at q; exact q
noncomputable def C5N (r:R):Bool:=C4E r&&(B7a r.g&&decide (ribE r=0))
structure RightS (r:R):Prop where
 hs:RSm r
 rib:ribE r=0
 rok:ROk r
 ends:(endsL r.es).length≤8
 ver:r.n≤5
 few:(treesG r.g).length≤24
theorem B7e {r:R} (h:C5N r=true):RightS r:=by
 unfold C5N at h;simp only [XY,decide_eq_true_eq] at h;obtain ⟨h1,h2,h3⟩:=h;have hr:=B4M h3;obtain ⟨f1,f2⟩:=B7d h2;obtain ⟨g1,g2⟩:=A9n f1;have hj:A0r r.g=0:=by unfold A0r; rw [if_neg (by have:=hr.c; omega),if_pos hr.conn]
 exact ⟨B9x h1,h3,hr,(g2 hr.c).1,(g2 hr.c).2,f2 hj⟩
theorem B7f (r:R):ACall Tryz.prog 24 [tR r] (A0z (C5N r)):=by
 have f1:=C3S r;have f2:=C2v r.g (B7c r.g);unfold C5N;cases h1:C4E r with
 | false=>
  rw [h1] at f1;rw [VW];clear h1 f2;obtain ⟨n,es,ar⟩:=r;refine ACall.of_body Tryz.func24 rfl (by kernel_rfl) ?_;simp only [entry,Tryz.ntmps24,tR];refine zU ?_;refine zR Qw9 (zc f1 Qw9) Qw9 ?_;simp [A0y,A0x,Blk.cells,ty,Tryz.results24,A0s,A0t,toT,A0d,A0b,A0c,A0a,A0z]
 | true=>
  rw [h1] at f1;rw [Vw];have hC:=B3O r (B9x h1);cases h2:B7a r.g with
  | false=>
   rw [h2] at f2;rw [VW];clear h1 h2 hC;obtain ⟨n,es,ar⟩:=r;have f3:ACall Tryz.prog 18 [tG ⟨n,es⟩] (A0z false):=f2;refine ACall.of_body Tryz.func24 rfl (by kernel_rfl) ?_;simp only [entry,Tryz.ntmps24,tR];refine zU ?_;refine zR Qw9 (zc f1 (zc f3 Qw9)) Qw9 ?_;simp [A0y,A0x,Blk.cells,ty,Tryz.results24,A0s,A0t,toT,A0d,A0b,A0c,A0a,A0z]
  | true=>
   rw [h2] at f2;rw [Vw];clear h1 h2;generalize ribE r=e at*;obtain ⟨n,es,ar⟩:=r;have f3:ACall Tryz.prog 18 [tG ⟨n,es⟩] (A0z true):=f2;refine ACall.of_body Tryz.func24 rfl (by kernel_rfl) ?_;simp only [entry,Tryz.ntmps24,tR];refine zU ?_;refine zR Qw9 (zc f1 (zc f3 (zc hC Qw9))) Qw9 ?_;simp [A0y,A0x,Blk.cells,ty,Tryz.results24,A0s,A0t,toT,A0d,A0b,A0c,A0a,A0z]
structure RedW (n:Nat) (es:List E) (goal W:List Int):Prop where
 len:W.length=n
 red:reducedAt n (mulE es) 0 (fun v=>W.getD v 0)
 eqv:eqvL n es goal W
structure ActS (r:R) (d:List Int):Prop where
 hs:RSm r
 few:(treesG r.g).length≤16384
 siz:sizeE r.es≤8
 ver:r.n≤5
 low:bndL 1000 d
theorem B5A {r:R} (hr:ROk r) {T:List Nat} (hT:T∈treesG r.g) (v:Nat):0≤(A3n r (zI T)).getD v 0∧(A3n r (zI T)).getD v 0≤2*((endsL r.es).length:Int):=by
 by_cases hv:v<r.n.toNat
 ·have h:=A6B r (zI T) (2*(endsL r.es).length) hv;unfold A3n;rw [Qz,h,Option.getD_some];have:=B1j (A6H (zI T)) (gR (endsL r.es)) (tourN r (zI T)) v (2*(endsL r.es).length);omega
 ·rw [Qz,Xq (by rw [A4m]; omega)];simp only [Option.getD_none]; omega
end Go.Proofs.YtdbdfkohpjefjaaGreat
