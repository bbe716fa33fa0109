/- A part of the proof. -/
import Derived.Test.YtdbdfkohpjefjaaGreatPart07
import Derived.Test.YtdbdfkohpjefjaaGreatPart06
set_option linter.all false
set_option maxHeartbeats 4000000
set_option maxRecDepth 100000
namespace Go.Proofs.YtdbdfkohpjefjaaGreat
open Go.Sp
instance:DecidableEq E:=fun x y=>decidable_of_iff (x.a=y.a∧x.b=y.b∧x.m=y.m) (by cases x; cases y; simp)
def fT (F:List Nat):List Tree:=F.map fun (n:Nat)=>Tree.int .i64 (n:Int)
def fC (F:List Nat):List ACell:=F.map fun (n:Nat)=>ACell.int .i64 (n:Int)
structure FOk (F:List Nat):Prop where
 len:F.length=12
 le: ∀i (h:i<F.length),F[i]≤i
theorem B2U {F:List Nat} {i:Nat} (h:i<F.length):(fT F).drop i= .int .i64 F[i]::(fT F).drop (i+1):=by
 have h':i<(fT F).length:=by simp [fT,h]
 rw [Zy h'];simp [fT]
def rootF (F:List Nat):Nat->Nat->Nat
 | 0,v=>v
 | n+1,v=>if F.getD v v=v then v else rootF F n (F.getD v v)
theorem B5w {F:List Nat} (h:FOk F): ∀{n m v:Nat},v<12->v≤n->v≤m->rootF F n v=rootF F m v:=by
 intro n
 induction n with
 | zero=>
  intro m v _ h1 h2;have:v=0:=by omega
  subst this;cases m with
  | zero=>rfl
  | succ m=>
   have h3:=h.le 0 (by rw [h.len]; omega);simp only [rootF];rw [Qz,Qq (by rw [h.len]; omega),Option.getD_some,if_pos (by omega)]
 | succ n ih=>
  intro m v hv h1 h2;have hl:v<F.length:=by rw [h.len]; exact hv
  have h3:=h.le v hl;have e:F.getD v v=F[v]:=by rw [Qz,Qq hl,Option.getD_some]
  cases m with
  | zero=>
   have:v=0:=by omega
   subst this;simp only [rootF,e];rw [if_pos (by omega)]
  | succ m=>
   simp only [rootF,e];by_cases hx:F[v]=v
   ·rw [if_pos hx,if_pos hx]
   ·rw [if_neg hx,if_neg hx];exact ih (by omega) (by omega) (by omega)
theorem A2C {F:List Nat} (h:FOk F) {v:Nat} (hv:v<F.length):rootF F 12 v=if F[v]=v then v else rootF F 12 F[v]:=by
 have hv':v<12:=by rw [<-h.len]; exact hv
 have e:F.getD v v=F[v]:=by rw [Qz,Qq hv,Option.getD_some]
 have h3:=h.le v hv;have:rootF F 12 v=if F[v]=v then v else rootF F 11 F[v]:=by
  show (if F.getD v v=v then v else rootF F 11 (F.getD v v))=_;rw [e]
 rw [this];by_cases hx:F[v]=v
 ·rw [if_pos hx,if_pos hx]
 ·rw [if_neg hx,if_neg hx]; exact B5w h (by omega) (by omega) (by omega)
theorem A2p {F:List Nat} (h:FOk F): ∀{n v:Nat},v<12->rootF F n v≤v:=by
 intro n
 induction n with
 | zero=>intro v _; exact QQ _
 | succ n ih=>
  intro v hv;have hl:v<F.length:=by rw [h.len]; exact hv
  have h3:=h.le v hl;have e:F.getD v v=F[v]:=by rw [Qz,Qq hl,Option.getD_some]
  simp only [rootF,e];split
  ·exact QQ _
  ·exact Yj (ih (by omega)) h3
theorem C2p (F:List Nat) (h:FOk F) (v:Nat) (hv:v<12):ACall Tryz.prog 95 [.t (.rptr (fT F)),A0m v] (A0m (rootF F 12 v)):=by
 have hF:=h.len;refine ACall.of_body Tryz.func95 rfl (by kernel_rfl) ?_;simp only [entry,Tryz.ntmps95,A0m];refine zU ?_;refine zR Qw8 Qw8 Qw8 ?_;refine AWp.loopS (α:=Nat) 18 (fun u=>[(0,.c (.rptr (fT F))),(1,.c (.int .i64 (u:Int)))]) (fun u=>[]) (fun u=>u<12∧rootF F 12 v=rootF F 12 u) (fun u=>u) (v) (hk:=Weak.headL 0 18 [0,1] zW) (h0:=?_) (round:=fun u hI=>?_)
 ·exact ⟨hv,rfl⟩
 ·obtain ⟨hu,hx⟩:=hI;have hul:u<F.length:=by omega
  have e1:=B2U hul;have e2:=A2C h hul;have e3:=h.le u hul
  repeat' (first|((first|(refine zT ?_;intro K' hK')|(refine zG ?_ ?_<;>(try refine zH ?_)<;>intro hguard<;>(try exact zX)<;>try intro K' hK'))<;>((try simp+contextual only [go_sem,e1,Int.toNat_natCast,Yz]);(repeat' first|(with_reducible refine hK' _ _ ?_;clear hK' K')|exact zY|with_reducible refine Qw7 ?_ ?_|(with_reducible intro hpath;try exact zP)|(refine hK' _ _ ?_;clear hK' K')|fail);try refine zS ?_))|(refine zE ?_;refine hK _ _ ?_;clear hK K)|(refine zN ?_;try refine zS ?_)|refine zA ?_|(refine zB ?_;intro K hK)|(refine zC ?_ ?_<;>(try refine zH ?_)<;>intro hcond<;>try exact zX)|fail)
  ·rw [if_neg (by omega)] at e2;refine ⟨F[u],Weak.headN 0 18 [0,1] zW,?_,?_⟩
   ·exact ⟨by omega,by rw [hx,e2]⟩
   ·omega
  ·rw [if_pos (by omega)] at e2;have e:rootF F 12 v=u:=by rw [hx,e2]
   simp [A0z,A0y,Blk.cells,ty,Tryz.results95,A0t,A0u,toT,A0d,A0b,A0c,A0a,A0m,e]
def A1C (s:List Nat×Int) (p:Int×Int):List Nat×Int:=
 let a:=rootF s.1 12 p.1.toNat;let b:=rootF s.1 12 p.2.toNat
 (s.1.set (max a b) (min a b),if a=b then s.2+1 else s.2)
def genS (l:List (Int×Int)):List Nat×Int:=l.foldl A1C (List.range 12,0)
def B7z (l:List (Int×Int)):Int:=(genS l).2
theorem A8t (l:List (Int×Int)) (p:Int×Int):genS (l++[p])=A1C (genS l) p:=by simp [genS]
theorem A9A {s:List Nat×Int} {p:Int×Int} (h:FOk s.1) (h1:0≤p.1∧p.1<12) (h2:0≤p.2∧p.2<12):FOk (A1C s p).1:=by
 refine ⟨by simp [A1C,h.len],fun i hi=> ?_⟩;simp only [A1C] at hi ⊢;rw [Qx5];split
 ·omega
 ·exact h.le i (by simpa using hi)
theorem B70 {l:List (Int×Int)} (h: ∀p,p∈l->(0≤p.1∧p.1<12)∧(0≤p.2∧p.2<12)):FOk (genS l).1∧0≤(genS l).2∧(genS l).2≤l.length:=by
 have key: ∀(l:List (Int×Int)) (s:List Nat×Int),FOk s.1->(∀p,p∈l->(0≤p.1∧p.1<12)∧(0≤p.2∧p.2<12))->FOk (l.foldl A1C s).1∧s.2≤(l.foldl A1C s).2∧(l.foldl A1C s).2≤s.2+l.length:=by
  intro l
  induction l with
  | nil=>intro s hs _; simp; exact hs
  | cons p l ih=>
   intro s hs hp;have hp1:=hp p (by simp);obtain ⟨q1,q2,q3⟩:=ih (A1C s p) (A9A hs hp1.1 hp1.2) fun q hq=>hp q (by simp [hq]);refine ⟨q1,?_,?_⟩
   ·refine Int.le_trans ?_ q2; simp only [A1C]; split<;>omega
   ·refine Int.le_trans q3 ?_; simp only [A1C,List.length_cons]; split<;>omega
 have:=key l (List.range 12,0) ⟨by simp,fun i hi=>by simp⟩ h;unfold genS;simpa using this
theorem A7f (F:List Nat) (i n:Nat):setMany (fC F) i [.int .i64 (n:Int)]=fC (F.set i n):=by
 simp only [setMany,fC];rw [Qj0]
theorem A48 (F:List Nat) (i n:Nat):(fC F).set i (.int .i64 (n:Int))=fC (F.set i n):=by
 simp only [fC];rw [Qj0]
theorem C0m (l:List (Int×Int)):(genS l).1.length=12:=by
 have key: ∀(l:List (Int×Int)) (s:List Nat×Int),s.1.length=12->(l.foldl A1C s).1.length=12:=by
  intro l
  induction l with
  | nil=>intro s hs; exact hs
  | cons p l ih=>intro s hs; exact ih _ (by simp [A1C,hs])
 exact key l _ (by simp)
theorem C2q (l:List (Int×Int)): ¬fC (genS l).1=[]:=fun h=>by
 have:=congrArg List.length h;simp [fC,C0m] at this
theorem A0U (F:List Nat):(fC F).length=F.length:=by simp [fC]
theorem A37 {es:List E} {p:Int×Int} (h:p∈endsL es): ∃e,e∈es∧p=(e.a,e.b):=by
 unfold endsL at h;obtain ⟨e,he,hp⟩:=Qq1.1 h;exact ⟨e,he,(WV.1 hp).2⟩
theorem ends_range {g:G} (hc:checkG g=0) {p:Int×Int} (h:p∈endsL g.es):(0≤p.1∧p.1<g.n)∧(0≤p.2∧p.2<g.n):=by
 obtain ⟨e,he,rfl⟩:=A37 h;have:=(A0j.1 hc).2.1 e he;unfold okE at this;simp only; omega
theorem B01 (F:List Nat):(fC F).mapM A0a=some (fT F):=by
 induction F with
 | nil=>rfl
 | cons x xs ih=>
  simp only [fC,fT,Xy,Jw,A0a] at ih ⊢;rw [ih]; rfl
theorem B1G (F:List Nat) (h:FOk F) (v:Nat) (hv:v<12) {H:List Blk} {id:Nat} (hb:H[id]? =some (.box (fC F))):
  ACallH Tryz.prog 95 H [.c (.ptr id 0),.c (.int .i64 (v:Int))] H (.c (.int .i64 (rootF F 12 v:Nat))):=
 ACall.hb (C2p F h v hv) (by simp [toT,A0d,A0b,hb,Blk.cells,B01,A0a,A0m]) rfl
def A6G (i:Nat):List Nat:=List.range i++List.replicate (12-i) 0
theorem A8u {i:Nat} (h:i<12):(A6G i).set i i=A6G (i+1):=by
 unfold A6G;rw [show 12-i=(12-(i+1))+1 by omega,List.replicate_succ,Ww];rw [JQ _ _ (by simp)];simp
theorem A8v {i:Nat} (h:i≤12):(A6G i).length=12:=by unfold A6G; simp; omega
theorem B02:A6G 12=List.range 12:=by unfold A6G; simp
theorem B4e (g:G) (hl:g.es.length<2^30):ACall Tryz.prog 46 [tG g] (.tup [A0m (if checkG g≠0 then 0 else B7z (endsL g.es)),A0m (checkG g)]):=by
 refine ACall.of_body Tryz.func46 rfl (by kernel_rfl) ?_;simp only [entry,Tryz.ntmps46,tG];refine zU ?_
 repeat' (first|((first|(refine zT ?_;intro K' hK')|(refine zG ?_ ?_<;>(try refine zH ?_)<;>intro hguard<;>(try exact zX)<;>try intro K' hK'))<;>((try simp+contextual only [go_sem]);(repeat' first|(with_reducible refine hK' _ _ ?_;clear hK' K')|(with_reducible refine zL (c:=A71 g (by omega)) (q:=?_);try simp+contextual only [go_sem])|exact zY|with_reducible refine Qw7 ?_ ?_|(with_reducible intro hpath;try exact zP)|(refine hK' _ _ ?_;clear hK' K')|fail);try refine zS ?_))|(refine zE ?_;refine hK _ _ ?_;clear hK K)|(refine zN ?_;try refine zS ?_)|refine zA ?_|(refine zB ?_;intro K hK)|(refine zC ?_ ?_<;>(try refine zH ?_)<;>intro hcond<;>try exact zX)|fail)
 ·rw [if_pos (by assumption)];simp [A0z,A0y,Blk.cells,ty,Tryz.results46,A0t,A0u,toT,A0d,A0b,A0c,A0a,A0m]
 ·rw [if_neg (by omega)];have hc:checkG g=0:=by omega
  have hs:=B5p hl hc;refine AWp.loopS (α:=Nat) 47 (fun i=>[(1,.c (.ptr 0 0)),(5,.c (.ptr 1 0)),(17,.c (.int .i64 (i:Int)))]) (fun i=>[.box [.int .i64 g.n,.slice (A0f g.es) .none],.box (fC (A6G i))]) (fun i=>i≤12) (fun i=>12-i) (0) (hk:=Weak.headL 2 47 [1,5,17] zW) (h0:=?_) (round:=fun i hI=>?_)
  ·exact Xj _
  ·by_cases hlt:i<12
   ·have hset:=A8u hlt;have hlen:=A8v hI;generalize A6G i=F at*;refine zR (zc @A0U (zc @hlen (zc @A7f (zc @A48 (zc @hset Qw8))))) Qw8 Qw8 ?_;refine ⟨i+1,Weak.headN 2 47 [1,5,17] zW,?_,?_⟩
    ·exact hlt
    ·omega
   ·have ei:i=12:=by omega
    subst ei;refine zR Qw8 (zc (A90 g) Qw8) Qw8 ?_;refine AWp.weak (Weak.head (m:=3) (by omega) ((fun t f=>[f,t,f,f,f,t,f,t,f,f,f,f,f,f,f,f,f,f,f,f,f,f,f,f,f,t,f,f,f,f,f,f,f,f,f,f,f,f,f,f,f,f,f,f,f,f,f]) true false) (by first | rfl | simp [mask]) (by first | rfl | simp) (by (repeat' (first | exact A0l _ | refine A0i ?_ ?_ | refine A0g ?_ ?_ | exact A0h _ | exact Qw6 | (show _<_; omega) | (intro c hc; cases hc; done) | (intro c hc; simp only [Qw,Qv,or_false] at hc; subst hc; first | exact Qw6 | (show _<_; omega)) | (intro c hc; simp only [Qw,Qv,or_false] at hc; rcases hc with rfl | rfl<;>first | exact Qw6 | (show _<_; omega))))) (by (repeat' (first | exact A0l _ | exact A0r _ | exact A0h _ | refine Qw7 ?_ ?_ | refine A0i ?_ ?_ | refine A0k ?_ ?_ | refine A0g ?_ ?_ | exact Qw6 | (show _<_; omega) | exact A0p (fun _=>Qw6) | (intro c hc; cases hc; done) | (intro c hc; simp only [Qw,Qv,or_false] at hc; subst hc; first | exact Qw6 | (show _<_; omega)) | (intro c hc; simp only [Qw,Qv,or_false] at hc; rcases hc with rfl | rfl<;>first | exact Qw6 | (show _<_; omega)))))) (AWp.rangeFunc (fun k H=>H=[.box [.int .i64 g.n,.slice (A0f g.es) .none],.box (fC (genS ((endsL g.es).take k)).1),.box [.int .i64 (genS ((endsL g.es).take k)).2]]∧(True)) (fun _ _=>False) 3 rfl (A8m g hs.s hs.es hs.m) (B19 rfl) (by omega) (by (repeat' (first | exact A0l _ | refine A0i ?_ ?_ | refine A0g ?_ ?_ | exact A0h _ | exact Qw6 | (show _<_; omega) | (intro c hc; cases hc; done) | (intro c hc; simp only [Qw,Qv,or_false] at hc; subst hc; first | exact Qw6 | (show _<_; omega)) | (intro c hc; simp only [Qw,Qv,or_false] at hc; rcases hc with rfl | rfl<;>first | exact Qw6 | (show _<_; omega))))) (by rintro _ _ ⟨rfl,-⟩; simp [C2q]) (fun _ _ h=>h.elim) ?_ (fun l k ts H hts hI=> ?_) (fun H hI=> ?_) (fun e H h=>h.elim))
    ·exact ⟨by rw [B02]; simp [genS],trivial⟩
    ·obtain ⟨rfl,-⟩:=hI;obtain ⟨p,hp,rfl⟩:=A6D hts;have hrng:=ends_range hc (Qy hp);have hn12:=(A0j.1 hc).1;have hok:=B70 (l:=(endsL g.es).take k) fun q hq=>by
      have:=ends_range hc (Vv hq); omega
     have hk:k<(endsL g.es).length:=(Qx.1 hp).1;have hkl:((endsL g.es).take k).length≤k:=by rw [Wz]; omega
     have hsn:=take_snoc hp;have hnx:=A8t ((endsL g.es).take k) p;rw [<-hsn] at hnx;have hs3:=hs.s;obtain ⟨p1,p2⟩:=p;obtain ⟨a,rfl⟩:=XV hrng.1.1;obtain ⟨b,rfl⟩:=XV hrng.2.1;have ha:a<12:=by omega
     have hb:b<12:=by omega
     generalize genS ((endsL g.es).take k)=s at*;obtain ⟨F,c⟩:=s;have hF:=hok.1;have la:=A2p hF (n:=12) ha;have lb:=A2p hF (n:=12) hb;simp only [A1C,Int.toNat_natCast] at hnx;simp only [mask,A4e,List.zip_cons_cons,WQ,List.zip_nil_left,List.foldl_cons,List.foldl_nil,List.set_cons_succ,List.set_cons_zero,ofT,A2G,A03,Xy,Zx,ofT,A2G,toT,A0u,A0a,A0m,A0v,A3a,tG,A0B,A0n];generalize hx:rootF F 12 a=x at*;generalize hy:rootF F 12 b=y at*;have hmax:max (x:Int) (y:Int)=((max x y:Nat):Int):=by omega
     have hmin:min (x:Int) (y:Int)=((min x y:Nat):Int):=by omega
     have rx:=B1G F hF a ha (H:=[.box [.int .i64 g.n,.slice (A0f g.es) .none],.box (fC F),.box [.int .i64 c],.box [.int .i64 (a:Int),.int .i64 (b:Int)]]) (id:=1) rfl;have ry:=B1G F hF b hb (H:=[.box [.int .i64 g.n,.slice (A0f g.es) .none],.box (fC F),.box [.int .i64 c],.box [.int .i64 (a:Int),.int .i64 (b:Int)]]) (id:=1) rfl;rw [hx] at rx;rw [hy] at ry
     repeat' (first|((first|(refine zT ?_;intro K' hK')|(refine zG ?_ ?_<;>(try refine zH ?_)<;>intro hguard<;>(try exact zX)<;>try intro K' hK'))<;>((try simp+contextual only [go_sem,Int.toNat_natCast,Yz,A0U,A7f,A48,hmax,hmin,hF.len]);(repeat' first|(with_reducible refine hK' _ _ ?_;clear hK' K')|((with_reducible first|refine ⟨_,_,rx,?_⟩|refine ⟨_,rx,?_⟩|refine ⟨_,_,ry,?_⟩|refine ⟨_,ry,?_⟩);try simp+contextual only [go_sem,Int.toNat_natCast,Yz,A0U,A7f,A48,hmax,hmin,hF.len])|exact zY|with_reducible refine Qw7 ?_ ?_|(with_reducible intro hpath;try exact zP)|(refine hK' _ _ ?_;clear hK' K')|fail);try refine zS ?_))|(refine zE ?_;refine hK _ _ ?_;clear hK K)|(refine zN ?_;try refine zS ?_)|refine zA ?_|(refine zB ?_;intro K hK)|(refine zC ?_ ?_<;>(try refine zH ?_)<;>intro hcond<;>try exact zX)|fail)
     all_goals
      refine ⟨⟨_,_⟩,Weak.head2 (m:=3) (by decide) ((fun t f=>[f,f,f,f,f,f,f,f,f,f,f,f,f,f,f,f,f,f,f,f,f,f,f,f,f,f,f,f,f,f,f,f,f,f,f,f,f,f,f,f,f,f,f,f,f,f,f]) true false) rfl rfl zW,?_,?_⟩
      ·have hxy:(x=y)∨ ¬(x=y):=Classical.em _;have hg:genS (List.take (k+1) (endsL g.es))=(F.set (max x y) (min x y),if x=y then c+1 else c):=hnx;rw [hg];rcases hxy with hxy | hxy
       ·first
         | (simp [hxy]; done)
         | (exfalso; omega)
       ·first
         | (simp [hxy]; done)
         | (exfalso; omega)
      ·trivial
    ·obtain ⟨rfl,-⟩:=hI;simp only [mask];have e0:checkG g=0:=hc;refine zR Qw8 Qw8 Qw8 ?_;simp [A0z,A0y,Blk.cells,ty,Tryz.results46,A0t,A0u,toT,A0d,A0b,A0c,A0a,A0m,A6C,e0,B7z]
def b2i (p:Prop) [Decidable p]:Int:=if p then 1 else 0
def C2r (v:Int):List (Int×Int)->Int
 | []=>0
 | p::l=>b2i (p.1=v)+b2i (p.2=v)+C2r v l
def A4h (n:Int):Option Int->List Int->Int
 | _,[]=>0
 | p,v::l=>if ¬(0≤v∧v<n) then 2 else if (∃u,p=some u∧v≤u) then 9 else A4h n (some v) l
def B2u (g:G) (l:List Int):Int:=if checkG g≠0 then checkG g else A4h g.n none l
theorem A8w (g:G) (l:List Int) (hg:g.es.length<2^40) (hl:l.length<2^40):ACall Tryz.prog 90 [tG g,A0n l] (A0m (B2u g l)):=by
 refine ACall.of_body Tryz.func90 rfl (by kernel_rfl) ?_;simp only [entry,Tryz.ntmps90,tG,A0n];refine zU ?_
 repeat' (first|((first|(refine zT ?_;intro K' hK')|(refine zG ?_ ?_<;>(try refine zH ?_)<;>intro hguard<;>(try exact zX)<;>try intro K' hK'))<;>((try simp+contextual only [go_sem,A0e]);(repeat' first|(with_reducible refine hK' _ _ ?_;clear hK' K')|(with_reducible refine zK (A71 g hg) ?_;try simp+contextual only [go_sem,A0e])|exact zY|with_reducible refine Qw7 ?_ ?_|(with_reducible intro hpath;try exact zP)|(refine hK' _ _ ?_;clear hK' K')|fail);try refine zS ?_))|(refine zE ?_;refine hK _ _ ?_;clear hK K)|(refine zN ?_;try refine zS ?_)|refine zA ?_|(refine zB ?_;intro K hK)|(refine zC ?_ ?_<;>(try refine zH ?_)<;>intro hcond<;>try exact zX)|fail)
 ·have e:B2u g l=checkG g:=by unfold B2u; rw [if_pos (by assumption)]
  simp [A0z,A0y,Blk.cells,ty,Tryz.results90,A0t,A0u,toT,A0d,A0b,A0c,A0a,A0m,e]
 ·have hc:checkG g=0:=by omega
  have e:B2u g l=A4h g.n none l:=by unfold B2u; rw [if_neg (by omega)]
  rw [e];refine AWp.loopS (α:=Nat) 37 (fun k=>[(1,.c (.slice (A0o l) .none)),(2,.c (.ptr 0 0)),(13,.c (.slice (A0o l) .none)),(14,.c (.int .i64 l.length)),(15,.c (.int .i64 (k:Int)))]) (fun k=>[.box [.int .i64 g.n,.slice (A0f g.es) .none]]) (fun k=>k≤l.length∧A4h g.n none l=A4h g.n (match k with | 0=>none | j+1=>l[j]?) (l.drop k)) (fun k=>l.length-k) (0) (hk:=Weak.headL 1 37 [1,2,13,14,15] zW) (h0:=?_) (round:=fun k hI=>?_)
  ·exact ⟨Xj _,rfl⟩
  ·obtain ⟨hk,hx⟩:=hI;by_cases hlt:k<l.length
   ·have e0:=Qq hlt;have e1:=A0w e0;rw [Zy hlt,A4h] at hx;generalize hv:l[k]=v at*;cases k with
    | zero=>
     simp only [reduceCtorEq,false_and,exists_false,if_false] at hx
     repeat' (first|((first|(refine zT ?_;intro K' hK')|(refine zG ?_ ?_<;>(try refine zH ?_)<;>intro hguard<;>(try exact zX)<;>try intro K' hK'))<;>((try simp+contextual only [go_sem,e1,Int.toNat_natCast,ZY]);(repeat' first|(with_reducible refine hK' _ _ ?_;clear hK' K')|(with_reducible refine zK (A8k _ _) ?_;try simp+contextual only [go_sem,e1,Int.toNat_natCast,ZY])|exact zY|with_reducible refine Qw7 ?_ ?_|(with_reducible intro hpath;try exact zP)|(refine hK' _ _ ?_;clear hK' K')|fail);try refine zS ?_))|(refine zE ?_;refine hK _ _ ?_;clear hK K)|(refine zN ?_;try refine zS ?_)|refine zA ?_|(refine zB ?_;intro K hK)|(refine zC ?_ ?_<;>(try refine zH ?_)<;>intro hcond<;>try exact zX)|fail)
     ·rw [if_pos (by assumption)] at hx;simp [A0z,A0y,Blk.cells,ty,Tryz.results90,A0t,A0u,toT,A0d,A0b,A0c,A0a,A0m,hx]
     ·rw [if_neg (by omega)] at hx;refine ⟨0+1,Weak.headN 1 37 [1,2,13,14,15] zW,?_,?_⟩
      ·exact ⟨hlt,hx.trans (by simp only [e0])⟩
      ·omega
    | succ j=>
     have e2:=Qq (show j<l.length by omega);have e3:=A0w e2;have hj1:((j+1:Nat):Int)-1=(j:Int):=by omega
     simp only [e2,JY,exists_eq_left'] at hx;generalize hu:l[j]=u at*
     repeat' (first|((first|(refine zT ?_;intro K' hK')|(refine zG ?_ ?_<;>(try refine zH ?_)<;>intro hguard<;>(try exact zX)<;>try intro K' hK'))<;>((try simp+contextual only [go_sem,e1,e3,hj1,Int.toNat_natCast,ZY]);(repeat' first|(with_reducible refine hK' _ _ ?_;clear hK' K')|(with_reducible refine zK (A8k _ _) ?_;try simp+contextual only [go_sem,e1,e3,hj1,Int.toNat_natCast,ZY])|exact zY|with_reducible refine Qw7 ?_ ?_|(with_reducible intro hpath;try exact zP)|(refine hK' _ _ ?_;clear hK' K')|fail);try refine zS ?_))|(refine zE ?_;refine hK _ _ ?_;clear hK K)|(refine zN ?_;try refine zS ?_)|refine zA ?_|(refine zB ?_;intro K hK)|(refine zC ?_ ?_<;>(try refine zH ?_)<;>intro hcond<;>try exact zX)|fail)
     ·rw [if_pos (by assumption)] at hx;simp [A0z,A0y,Blk.cells,ty,Tryz.results90,A0t,A0u,toT,A0d,A0b,A0c,A0a,A0m,hx]
     ·rw [if_neg (by omega),if_pos (by assumption)] at hx;simp [A0z,A0y,Blk.cells,ty,Tryz.results90,A0t,A0u,toT,A0d,A0b,A0c,A0a,A0m,hx]
     ·rw [if_neg (by omega),if_neg (by omega)] at hx;refine ⟨j+1+1,Weak.headN 1 37 [1,2,13,14,15] zW,?_,?_⟩
      ·exact ⟨hlt,hx.trans (by simp only [e0])⟩
      ·omega
   ·have e:k=l.length:=by omega
    have e:A4h g.n none l=0:=by rw [hx,e,Qx3]; rfl
    refine zR (zc @ZY Qw8) Qw8 Qw8 ?_;simp [A0z,A0y,Blk.cells,ty,Tryz.results90,A0t,A0u,toT,A0d,A0b,A0c,A0a,A0m,e]
def C0n (set:List Int) (p:Int×Int):Bool:= !decide (decide (p.1∈set)=decide (p.2∈set))
def C0o (set:List Int) (l:List (Int×Int)):List Int:=l.zipIdx.filterMap fun q=>if C0n set q.1 then some (q.2:Int) else none
def sumR (f:Nat->Int):Nat->Int
 | 0=>0
 | n+1=>sumR f n+f n
theorem B03 (f g:Nat->Int) (n:Nat):sumR (fun i=>f i+g i) n=sumR f n+sumR g n:=by
 induction n with
 | zero=>rfl
 | succ n ih=>simp only [sumR,ih]; omega
theorem A6b {f:Nat->Int} {n:Nat} (h: ∀i,i<n->f i=0):sumR f n=0:=by
 induction n with
 | zero=>rfl
 | succ n ih=>simp only [sumR,ih fun i hi=>h i (by omega),h n (by omega)]; rfl
theorem A1m {f g:Nat->Int} {n:Nat} (h: ∀i,i<n->f i=g i):sumR f n=sumR g n:=by
 induction n with
 | zero=>rfl
 | succ n ih=>simp only [sumR,ih fun i hi=>h i (by omega),h n (by omega)]
theorem B4f {c m:Int}: ∀{n:Nat},0≤c->c<n->sumR (fun i=>if (i:Int)=c then m else 0) n=m:=by
 intro n
 induction n with
 | zero=>intro h1 h2; omega
 | succ n ih=>
  intro h1 h2;simp only [sumR];by_cases e:(n:Int)=c
  ·rw [if_pos e,A6b (fun i hi=>if_neg (by omega))]; omega
  ·rw [if_neg e,ih h1 (by omega)]; omega
theorem B2V {es:List E} (h:es.Pairwise ltE):distinctE es:=h.imp fun {x y} h=>by unfold ltE at h; unfold neE; omega
theorem A9B (x:E) (xs:List E):endsL (x::xs)=List.replicate x.m.toNat (x.a,x.b)++endsL xs:=by simp [endsL]
set_option maxHeartbeats 1000000
theorem A9C (c:Int) (n:Nat):sumR (fun _=>c) n=n*c:=by
 induction n with
 | zero=>simp [sumR]
 | succ n ih=>simp only [sumR,ih]; rw [Int.natCast_add,Int.add_mul]; simp
theorem A9D (c:Int) (j:Nat): ∀{n:Nat},j<n->sumR (fun i=>if i=j then c else 0) n=c
 | 0,h=>by omega
 | n+1,h=>by
  simp only [sumR];by_cases e:j=n
  ·subst e; rw [if_pos rfl,A6b fun i hi=>if_neg (by omega)]; omega
  ·rw [if_neg (by omega),A9D c j (n:=n) (by omega)]; omega
structure Mult (n:Nat) (M:Nat->Nat->Int):Prop where
 sym: ∀u v,M u v=M v u
 pos: ∀u v,0≤M u v
 dia: ∀v,M v v=0
 con: ∀S:Nat->Bool,(∃v,v<n∧S v=true)->(∃v,v<n∧S v=false)-> ∃u v,u<n∧v<n∧S u=true∧S v=false∧1≤M u v
def lap (n:Nat) (M:Nat->Nat->Int) (s:Nat->Int) (v:Nat):Int:=sumR (fun u=>M v u*(s v-s u)) n
section
variable {n:Nat} {M:Nat->Nat->Int}
end
set_option maxHeartbeats 1000000
def inA (n:Nat) (M:Nat->Nat->Int) (A:Nat->Bool) (v:Nat):Int:=sumR (fun u=>if A u=true then M v u else 0) n
section
variable {n:Nat} {M:Nat->Nat->Int}
theorem B5x (hM:Mult n M) {q:Nat} (hq:q<n): ∀k,1≤k->k≤n-> ∃L:List Nat,L.length=k∧L.Nodup∧(∀v,v∈L->v<n)∧L[0]? =some q∧ ∀i v,1≤i->L[i]? =some v-> ∃u,u∈L.take i∧1≤M v u:=by
 intro k
 induction k with
 | zero=>intro h; omega
 | succ k ih=>
  intro _ hk;rcases Qj8 k with h0 | h0
  ·subst h0;exact ⟨[q],rfl,by simp,by simpa using hq,rfl,fun i v hi hv=>by have:=(Qx.1 hv).1; simp at this; omega⟩
  ·obtain ⟨L,l1,l2,l3,l4,l5⟩:=ih h0 (by omega);have hout: ∃v,v<n∧v∉L:=by
    refine ZV fun hx=> ?_;have:=WJ (l₁:=List.range n) (l₂:=L) Qx4 fun v hv=>ZV fun h=>hx ⟨v,XQ.1 hv,h⟩;rw [Vj] at this; omega
   obtain ⟨w,hw,hwL⟩:=hout;obtain ⟨u,v,hu,hv,h1,h2,h3⟩:=hM.con (fun v=>decide (v∈L)) ⟨q,hq,decide_eq_true (Qy l4)⟩ ⟨w,hw,decide_eq_false hwL⟩;rw [decide_eq_true_eq] at h1;rw [decide_eq_false_iff_not] at h2;refine ⟨L++[v],by simp [l1],JZ.2 ⟨l2,by simp,fun a ha b hb=>by simp at hb; subst hb; rintro rfl; exact h2 ha⟩,fun x hx=> ?_,by rw [Qk (by omega)]; exact l4,fun i x hi hx=> ?_⟩
   ·rcases XZ.1 hx with h | h
    ·exact l3 x h
    ·rw [XJ.1 h]; exact hv
   ·by_cases hil:i<L.length
    ·rw [Qk hil] at hx;obtain ⟨y,y1,y2⟩:=l5 i x hi hx;exact ⟨y,by rw [ZQ (by omega)]; exact y1,y2⟩
    ·have hi2:=(Qx.1 hx).1;simp at hi2;have hie:i=L.length:=by omega
     subst hie;rw [QJ (QQ _)] at hx;simp at hx; subst hx;exact ⟨u,by rw [ZQ (QQ _),Zw]; exact h1,by rw [hM.sym]; exact h3⟩
end
end Go.Proofs.YtdbdfkohpjefjaaGreat
