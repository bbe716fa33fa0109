/- A part of the proof. -/
import Derived.Test.YtdbdfkohpjefjaaGreatPart07
import Derived.Test.YtdbdfkohpjefjaaGreatPart06
import Derived.Test.YtdbdfkohpjefjaaGreatLayerD
set_option linter.all false
set_option maxHeartbeats 4000000
set_option maxRecDepth 100000
namespace Go.Proofs.YtdbdfkohpjefjaaGreat
open Go.Sp
instance:DecidableEq E:=fun x y=>decidable_of_iff (x.a=y.a∧x.b=y.b∧x.m=y.m) (by cases x; cases y; simp)
def fT (F:List Nat):List Tree:=F.map fun (n:Nat)=>Tree.int .i64 (n:Int)
def fC (F:List Nat):List ACell:=F.map fun (n:Nat)=>ACell.int .i64 (n:Int)
structure FOk (F:List Nat):Prop where
 len:F.length=12
 le: ∀i (h:i<F.length),F[i]≤i
theorem B2S {F:List Nat} {i:Nat} (h:i<F.length):(fT F).drop i= .int .i64 F[i]::(fT F).drop (i+1):=by
 have h':i<(fT F).length:=by simp [fT,h]
 rw [Zq h'];simp [fT]
def rootF (F:List Nat):Nat->Nat->Nat
 | 0,v=>v
 | n+1,v=>if F.getD v v=v then v else rootF F n (F.getD v v)
theorem B5o {F:List Nat} (h:FOk F): ∀{n m v:Nat},v<12->v≤n->v≤m->rootF F n v=rootF F m v:=by
 intro n
 induction n with
 | zero=>
  intro m v _ h1 h2;have:v=0:=by omega
  subst this;cases m with
  | zero=>rfl
  | succ m=>
   have h3:=h.le 0 (by rw [h.len]; omega);simp only [rootF];rw [Qz,Qq (by rw [h.len]; omega),Option.getD_some,if_pos (by omega)]
 | succ n ih=>
  intro m v hv h1 h2;have hl:v<F.length:=by rw [h.len]; exact hv
  have h3:=h.le v hl;have e:F.getD v v=F[v]:=by rw [Qz,Qq hl,Option.getD_some]
  cases m with
  | zero=>
   have:v=0:=by omega
   subst this;simp only [rootF,e];rw [if_pos (by omega)]
  | succ m=>
   simp only [rootF,e];by_cases hx:F[v]=v
   ·rw [if_pos hx,if_pos hx]
   ·rw [if_neg hx,if_neg hx];exact ih (by omega) (by omega) (by omega)
theorem A26 {F:List Nat} (h:FOk F) {v:Nat} (hv:v<F.length):rootF F 12 v=if F[v]=v then v else rootF F 12 F[v]:=by
 have hv':v<12:=by rw [<-h.len]; exact hv
 have e:F.getD v v=F[v]:=by rw [Qz,Qq hv,Option.getD_some]
 have h3:=h.le v hv;have:rootF F 12 v=if F[v]=v then v else rootF F 11 F[v]:=by
  show (if F.getD v v=v then v else rootF F 11 (F.getD v v))=_;rw [e]
 rw [this];by_cases hx:F[v]=v
 ·rw [if_pos hx,if_pos hx]
 ·rw [if_neg hx,if_neg hx]; exact B5o h (by omega) (by omega) (by omega)
theorem A2j {F:List Nat} (h:FOk F): ∀{n v:Nat},v<12->rootF F n v≤v:=by
 intro n
 induction n with
 | zero=>intro v _; exact QQ _
 | succ n ih=>
  intro v hv;have hl:v<F.length:=by rw [h.len]; exact hv
  have h3:=h.le v hl;have e:F.getD v v=F[v]:=by rw [Qz,Qq hl,Option.getD_some]
  simp only [rootF,e];split
  ·exact QQ _
  ·exact Yj (ih (by omega)) h3
theorem C1Q (F:List Nat) (h:FOk F) (v:Nat) (hv:v<12):ACall Tryz.prog 95 [.t (.rptr (fT F)),A0k v] (A0k (rootF F 12 v)):=by
 have hF:=h.len;refine ACall.of_body Tryz.func95 rfl (by kernel_rfl) ?_;simp only [entry,Tryz.ntmps95,A0k];refine zU ?_;refine zR Qw6 Qw6 Qw6 ?_;refine AWp.loopS (α:=Nat) 18 (fun u=>[(0,.c (.rptr (fT F))),(1,.c (.int .i64 (u:Int)))]) (fun u=>[]) (fun u=>u<12∧rootF F 12 v=rootF F 12 u) (fun u=>u) (v) (hk:=A0r.headL 0 18 [0,1] zW) (h0:=?_) (round:=fun u hI=>?_)
 ·exact ⟨hv,rfl⟩
 ·obtain ⟨hu,hx⟩:=hI;have hul:u<F.length:=by omega
  have e1:=B2S hul;have e2:=A26 h hul;have e3:=h.le u hul
  repeat' (first|((first|(refine zT ?_;intro K' hK')|(refine zG ?_ ?_<;>(try refine zH ?_)<;>intro hguard<;>(try exact zX)<;>try intro K' hK'))<;>((try simp+contextual only [go_sem,e1,Int.toNat_natCast,Yq]);(repeat' first|(with_reducible refine hK' _ _ ?_;clear hK' K')|exact zY|with_reducible refine Qw5 ?_ ?_|(with_reducible intro hpath;try exact zP)|(refine hK' _ _ ?_;clear hK' K')|fail);try refine zS ?_))|(refine zE ?_;refine hK _ _ ?_;clear hK K)|(refine zN ?_;try refine zS ?_)|refine zA ?_|(refine zB ?_;intro K hK)|(refine zC ?_ ?_<;>(try refine zH ?_)<;>intro hcond<;>try exact zX)|fail)
  ·rw [if_neg (by omega)] at e2;refine ⟨F[u],A0r.headN 0 18 [0,1] zW,?_,?_⟩
   ·exact ⟨by omega,by rw [hx,e2]⟩
   ·omega
  ·rw [if_pos (by omega)] at e2;have e:rootF F 12 v=u:=by rw [hx,e2]
   simp [A0y,A0x,Blk.cells,ty,Tryz.results95,A0s,A0u,toT,A0e,A0b,A0c,A0a,A0k,e]
def A1G (s:List Nat×Int) (p:Int×Int):List Nat×Int:=
 let a:=rootF s.1 12 p.1.toNat;let b:=rootF s.1 12 p.2.toNat
 (s.1.set (max a b) (min a b),if a=b then s.2+1 else s.2)
def genS (l:List (Int×Int)):List Nat×Int:=l.foldl A1G (List.range 12,0)
def C1j (l:List (Int×Int)):Int:=(genS l).2
theorem A8y (l:List (Int×Int)) (p:Int×Int):genS (l++[p])=A1G (genS l) p:=by simp [genS]
theorem A9A {s:List Nat×Int} {p:Int×Int} (h:FOk s.1) (h1:0≤p.1∧p.1<12) (h2:0≤p.2∧p.2<12):FOk (A1G s p).1:=by
 refine ⟨by simp [A1G,h.len],fun i hi=> ?_⟩;simp only [A1G] at hi ⊢;rw [Qx0];split
 ·omega
 ·exact h.le i (by simpa using hi)
theorem B7m {l:List (Int×Int)} (h: ∀p,p∈l->(0≤p.1∧p.1<12)∧(0≤p.2∧p.2<12)):FOk (genS l).1∧0≤(genS l).2∧(genS l).2≤l.length:=by
 have key: ∀(l:List (Int×Int)) (s:List Nat×Int),FOk s.1->(∀p,p∈l->(0≤p.1∧p.1<12)∧(0≤p.2∧p.2<12))->FOk (l.foldl A1G s).1∧s.2≤(l.foldl A1G s).2∧(l.foldl A1G s).2≤s.2+l.length:=by
  intro l
  induction l with
  | nil=>intro s hs _; simp; exact hs
  | cons p l ih=>
   intro s hs hp;have hp1:=hp p (by simp);obtain ⟨q1,q2,q3⟩:=ih (A1G s p) (A9A hs hp1.1 hp1.2) fun q hq=>hp q (by simp [hq]);refine ⟨q1,?_,?_⟩
   ·refine Int.le_trans ?_ q2; simp only [A1G]; split<;>omega
   ·refine Int.le_trans q3 ?_; simp only [A1G,List.length_cons]; split<;>omega
 have:=key l (List.range 12,0) ⟨by simp,fun i hi=>by simp⟩ h;unfold genS;simpa using this
theorem A7e (F:List Nat) (i n:Nat):setMany (fC F) i [.int .i64 (n:Int)]=fC (F.set i n):=by
 simp only [setMany,fC];rw [Qz5]
theorem A41 (F:List Nat) (i n:Nat):(fC F).set i (.int .i64 (n:Int))=fC (F.set i n):=by
 simp only [fC];rw [Qz5]
theorem B9S (l:List (Int×Int)):(genS l).1.length=12:=by
 have key: ∀(l:List (Int×Int)) (s:List Nat×Int),s.1.length=12->(l.foldl A1G s).1.length=12:=by
  intro l
  induction l with
  | nil=>intro s hs; exact hs
  | cons p l ih=>intro s hs; exact ih _ (by simp [A1G,hs])
 exact key l _ (by simp)
theorem C1R (l:List (Int×Int)): ¬fC (genS l).1=[]:=fun h=>by
 have:=congrArg List.length h;simp [fC,B9S] at this
theorem A0U (F:List Nat):(fC F).length=F.length:=by simp [fC]
theorem A31 {es:List E} {p:Int×Int} (h:p∈endsL es): ∃e,e∈es∧p=(e.a,e.b):=by
 unfold endsL at h;obtain ⟨e,he,hp⟩:=Vw.1 h;exact ⟨e,he,(WJ.1 hp).2⟩
theorem ends_range {g:G} (hc:checkG g=0) {p:Int×Int} (h:p∈endsL g.es):(0≤p.1∧p.1<g.n)∧(0≤p.2∧p.2<g.n):=by
 obtain ⟨e,he,rfl⟩:=A31 h;have:=(A0j.1 hc).2.1 e he;unfold okE at this;simp only; omega
theorem B0z (F:List Nat):(fC F).mapM A0a=some (fT F):=by
 induction F with
 | nil=>rfl
 | cons x xs ih=>
  simp only [fC,fT,Xy,Jj,A0a] at ih ⊢;rw [ih]; rfl
theorem B19 (F:List Nat) (h:FOk F) (v:Nat) (hv:v<12) {H:List Blk} {id:Nat} (hb:H[id]? =some (.box (fC F))):
  ACallH Tryz.prog 95 H [.c (.ptr id 0),.c (.int .i64 (v:Int))] H (.c (.int .i64 (rootF F 12 v:Nat))):=
 ACall.hb (C1Q F h v hv) (by simp [toT,A0e,A0b,hb,Blk.cells,B0z,A0a,A0k]) rfl
def A6H (i:Nat):List Nat:=List.range i++List.replicate (12-i) 0
theorem A8z {i:Nat} (h:i<12):(A6H i).set i i=A6H (i+1):=by
 unfold A6H;rw [show 12-i=(12-(i+1))+1 by omega,List.replicate_succ,WZ];rw [Jy _ _ (by simp)];simp
theorem A80 {i:Nat} (h:i≤12):(A6H i).length=12:=by unfold A6H; simp; omega
theorem B00:A6H 12=List.range 12:=by unfold A6H; simp
theorem B9T (g:G) (hl:g.es.length<2^30):ACall Tryz.prog 46 [tG g] (.tup [A0k (if checkG g≠0 then 0 else C1j (endsL g.es)),A0k (checkG g)]):=by
 refine ACall.of_body Tryz.func46 rfl (by kernel_rfl) ?_;simp only [entry,Tryz.ntmps46,tG];refine zU ?_
 repeat' (first|((first|(refine zT ?_;intro K' hK')|(refine zG ?_ ?_<;>(try refine zH ?_)<;>intro hguard<;>(try exact zX)<;>try intro K' hK'))<;>((try simp+contextual only [go_sem]);(repeat' first|(with_reducible refine hK' _ _ ?_;clear hK' K')|(with_reducible refine zL (c:=A73 g (by omega)) (q:=?_);try simp+contextual only [go_sem])|exact zY|with_reducible refine Qw5 ?_ ?_|(with_reducible intro hpath;try exact zP)|(refine hK' _ _ ?_;clear hK' K')|fail);try refine zS ?_))|(refine zE ?_;refine hK _ _ ?_;clear hK K)|(refine zN ?_;try refine zS ?_)|refine zA ?_|(refine zB ?_;intro K hK)|(refine zC ?_ ?_<;>(try refine zH ?_)<;>intro hcond<;>try exact zX)|fail)
 ·rw [if_pos (by assumption)];simp [A0y,A0x,Blk.cells,ty,Tryz.results46,A0s,A0u,toT,A0e,A0b,A0c,A0a,A0k]
 ·rw [if_neg (by omega)];have hc:checkG g=0:=by omega
  have hs:=B5i hl hc;refine AWp.loopS (α:=Nat) 47 (fun i=>[(1,.c (.ptr 0 0)),(5,.c (.ptr 1 0)),(17,.c (.int .i64 (i:Int)))]) (fun i=>[.box [.int .i64 g.n,.slice (A0f g.es) .none],.box (fC (A6H i))]) (fun i=>i≤12) (fun i=>12-i) (0) (hk:=A0r.headL 2 47 [1,5,17] zW) (h0:=?_) (round:=fun i hI=>?_)
  ·exact Xj _
  ·by_cases hlt:i<12
   ·have hset:=A8z hlt;have hlen:=A80 hI;generalize A6H i=F at*;refine zR (zc @A0U (zc @hlen (zc @A7e (zc @A41 (zc @hset Qw6))))) Qw6 Qw6 ?_;refine ⟨i+1,A0r.headN 2 47 [1,5,17] zW,?_,?_⟩
    ·exact hlt
    ·omega
   ·have ei:i=12:=by omega
    subst ei;refine zR Qw6 (zc (A92 g) Qw6) Qw6 ?_;refine AWp.weak (A0r.head (m:=3) (by omega) ((fun t f=>[f,t,f,f,f,t,f,t,f,f,f,f,f,f,f,f,f,f,f,f,f,f,f,f,f,t,f,f,f,f,f,f,f,f,f,f,f,f,f,f,f,f,f,f,f,f,f]) true false) (by first | rfl | simp [mask]) (by first | rfl | simp) (by (repeat' (first | exact A0n _ | refine A0i ?_ ?_ | refine A0g ?_ ?_ | exact A0h _ | exact Qw4 | (show _<_; omega) | (intro c hc; cases hc; done) | (intro c hc; simp only [Qw,Qk,or_false] at hc; subst hc; first | exact Qw4 | (show _<_; omega)) | (intro c hc; simp only [Qw,Qk,or_false] at hc; rcases hc with rfl | rfl<;>first | exact Qw4 | (show _<_; omega))))) (by (repeat' (first | exact A0n _ | exact A0v _ | exact A0h _ | refine Qw5 ?_ ?_ | refine A0i ?_ ?_ | refine A0l ?_ ?_ | refine A0g ?_ ?_ | exact Qw4 | (show _<_; omega) | exact A0p (fun _=>Qw4) | (intro c hc; cases hc; done) | (intro c hc; simp only [Qw,Qk,or_false] at hc; subst hc; first | exact Qw4 | (show _<_; omega)) | (intro c hc; simp only [Qw,Qk,or_false] at hc; rcases hc with rfl | rfl<;>first | exact Qw4 | (show _<_; omega)))))) (AWp.rangeFunc (fun k H=>H=[.box [.int .i64 g.n,.slice (A0f g.es) .none],.box (fC (genS ((endsL g.es).take k)).1),.box [.int .i64 (genS ((endsL g.es).take k)).2]]∧(True)) (fun _ _=>False) 3 rfl (A8o g hs.s hs.es hs.m) (B12 rfl) (by omega) (by (repeat' (first | exact A0n _ | refine A0i ?_ ?_ | refine A0g ?_ ?_ | exact A0h _ | exact Qw4 | (show _<_; omega) | (intro c hc; cases hc; done) | (intro c hc; simp only [Qw,Qk,or_false] at hc; subst hc; first | exact Qw4 | (show _<_; omega)) | (intro c hc; simp only [Qw,Qk,or_false] at hc; rcases hc with rfl | rfl<;>first | exact Qw4 | (show _<_; omega))))) (by rintro _ _ ⟨rfl,-⟩; simp [C1R]) (fun _ _ h=>h.elim) ?_ (fun l k ts H hts hI=> ?_) (fun H hI=> ?_) (fun e H h=>h.elim))
    ·exact ⟨by rw [B00]; simp [genS],trivial⟩
    ·obtain ⟨rfl,-⟩:=hI;obtain ⟨p,hp,rfl⟩:=A6D hts;have hrng:=ends_range hc (Qy hp);have hn12:=(A0j.1 hc).1;have hok:=B7m (l:=(endsL g.es).take k) fun q hq=>by
      have:=ends_range hc (VJ hq); omega
     have hk:k<(endsL g.es).length:=(Qx.1 hp).1;have hkl:((endsL g.es).take k).length≤k:=by rw [WX]; omega
     have hsn:=take_snoc hp;have hnx:=A8y ((endsL g.es).take k) p;rw [<-hsn] at hnx;have hs3:=hs.s;obtain ⟨p1,p2⟩:=p;obtain ⟨a,rfl⟩:=XX hrng.1.1;obtain ⟨b,rfl⟩:=XX hrng.2.1;have ha:a<12:=by omega
     have hb:b<12:=by omega
     generalize genS ((endsL g.es).take k)=s at*;obtain ⟨F,c⟩:=s;have hF:=hok.1;have la:=A2j hF (n:=12) ha;have lb:=A2j hF (n:=12) hb;simp only [A1G,Int.toNat_natCast] at hnx;simp only [mask,A3Y,List.zip_cons_cons,Wy,List.zip_nil_left,List.foldl_cons,List.foldl_nil,List.set_cons_succ,List.set_cons_zero,ofT,A2A,A04,Xy,XV,ofT,A2A,toT,A0u,A0a,A0k,A01,A2W,tG,A0C,A0m];generalize hx:rootF F 12 a=x at*;generalize hy:rootF F 12 b=y at*;have hmax:max (x:Int) (y:Int)=((max x y:Nat):Int):=by omega
     have hmin:min (x:Int) (y:Int)=((min x y:Nat):Int):=by omega
     have rx:=B19 F hF a ha (H:=[.box [.int .i64 g.n,.slice (A0f g.es) .none],.box (fC F),.box [.int .i64 c],.box [.int .i64 (a:Int),.int .i64 (b:Int)]]) (id:=1) rfl;have ry:=B19 F hF b hb (H:=[.box [.int .i64 g.n,.slice (A0f g.es) .none],.box (fC F),.box [.int .i64 c],.box [.int .i64 (a:Int),.int .i64 (b:Int)]]) (id:=1) rfl;rw [hx] at rx;rw [hy] at ry
     repeat' (first|((first|(refine zT ?_;intro K' hK')|(refine zG ?_ ?_<;>(try refine zH ?_)<;>intro hguard<;>(try exact zX)<;>try intro K' hK'))<;>((try simp+contextual only [go_sem,Int.toNat_natCast,Yq,A0U,A7e,A41,hmax,hmin,hF.len]);(repeat' first|(with_reducible refine hK' _ _ ?_;clear hK' K')|((with_reducible first|refine ⟨_,_,rx,?_⟩|refine ⟨_,rx,?_⟩|refine ⟨_,_,ry,?_⟩|refine ⟨_,ry,?_⟩);try simp+contextual only [go_sem,Int.toNat_natCast,Yq,A0U,A7e,A41,hmax,hmin,hF.len])|exact zY|with_reducible refine Qw5 ?_ ?_|(with_reducible intro hpath;try exact zP)|(refine hK' _ _ ?_;clear hK' K')|fail);try refine zS ?_))|(refine zE ?_;refine hK _ _ ?_;clear hK K)|(refine zN ?_;try refine zS ?_)|refine zA ?_|(refine zB ?_;intro K hK)|(refine zC ?_ ?_<;>(try refine zH ?_)<;>intro hcond<;>try exact zX)|fail)
     all_goals
      refine ⟨⟨_,_⟩,A0r.head2 (m:=3) (by decide) ((fun t f=>[f,f,f,f,f,f,f,f,f,f,f,f,f,f,f,f,f,f,f,f,f,f,f,f,f,f,f,f,f,f,f,f,f,f,f,f,f,f,f,f,f,f,f,f,f,f,f]) true false) rfl rfl zW,?_,?_⟩
      ·have hxy:(x=y)∨ ¬(x=y):=Classical.em _;have hg:genS (List.take (k+1) (endsL g.es))=(F.set (max x y) (min x y),if x=y then c+1 else c):=hnx;rw [hg];rcases hxy with hxy | hxy
       ·first
         | (simp [hxy]; done)
         | (exfalso; omega)
       ·first
         | (simp [hxy]; done)
         | (exfalso; omega)
      ·trivial
    ·obtain ⟨rfl,-⟩:=hI;simp only [mask];have e0:checkG g=0:=hc;refine zR Qw6 Qw6 Qw6 ?_;simp [A0y,A0x,Blk.cells,ty,Tryz.results46,A0s,A0u,toT,A0e,A0b,A0c,A0a,A0k,A6C,e0,C1j]
def b2i (p:Prop) [Decidable p]:Int:=if p then 1 else 0
def A6x (v:Int):List (Int×Int)->Int
 | []=>0
 | p::l=>b2i (p.1=v)+b2i (p.2=v)+A6x v l
theorem A81 (v:Int) (a b:List (Int×Int)):A6x v (a++b)=A6x v a+A6x v b:=by
 induction a with
 | nil=>simp [A6x]
 | cons x xs ih=>simp only [List.cons_append,A6x,ih]; omega
theorem B7n (v:Int) (l:List (Int×Int)) (p:Int×Int):A6x v (l++[p])=A6x v l+b2i (p.1=v)+b2i (p.2=v):=by
 rw [A81]; simp only [A6x]; omega
def A2X (n:Int):Option Int->List Int->Int
 | _,[]=>0
 | p,v::l=>if ¬(0≤v∧v<n) then 2 else if (∃u,p=some u∧v≤u) then 9 else A2X n (some v) l
def B2s (g:G) (l:List Int):Int:=if checkG g≠0 then checkG g else A2X g.n none l
theorem A82 (g:G) (l:List Int) (hg:g.es.length<2^40) (hl:l.length<2^40):ACall Tryz.prog 90 [tG g,A0m l] (A0k (B2s g l)):=by
 refine ACall.of_body Tryz.func90 rfl (by kernel_rfl) ?_;simp only [entry,Tryz.ntmps90,tG,A0m];refine zU ?_
 repeat' (first|((first|(refine zT ?_;intro K' hK')|(refine zG ?_ ?_<;>(try refine zH ?_)<;>intro hguard<;>(try exact zX)<;>try intro K' hK'))<;>((try simp+contextual only [go_sem,A0d]);(repeat' first|(with_reducible refine hK' _ _ ?_;clear hK' K')|(with_reducible refine zK (A73 g hg) ?_;try simp+contextual only [go_sem,A0d])|exact zY|with_reducible refine Qw5 ?_ ?_|(with_reducible intro hpath;try exact zP)|(refine hK' _ _ ?_;clear hK' K')|fail);try refine zS ?_))|(refine zE ?_;refine hK _ _ ?_;clear hK K)|(refine zN ?_;try refine zS ?_)|refine zA ?_|(refine zB ?_;intro K hK)|(refine zC ?_ ?_<;>(try refine zH ?_)<;>intro hcond<;>try exact zX)|fail)
 ·have e:B2s g l=checkG g:=by unfold B2s; rw [if_pos (by assumption)]
  simp [A0y,A0x,Blk.cells,ty,Tryz.results90,A0s,A0u,toT,A0e,A0b,A0c,A0a,A0k,e]
 ·have hc:checkG g=0:=by omega
  have e:B2s g l=A2X g.n none l:=by unfold B2s; rw [if_neg (by omega)]
  rw [e];refine AWp.loopS (α:=Nat) 37 (fun k=>[(1,.c (.slice (A0o l) .none)),(2,.c (.ptr 0 0)),(13,.c (.slice (A0o l) .none)),(14,.c (.int .i64 l.length)),(15,.c (.int .i64 (k:Int)))]) (fun k=>[.box [.int .i64 g.n,.slice (A0f g.es) .none]]) (fun k=>k≤l.length∧A2X g.n none l=A2X g.n (match k with | 0=>none | j+1=>l[j]?) (l.drop k)) (fun k=>l.length-k) (0) (hk:=A0r.headL 1 37 [1,2,13,14,15] zW) (h0:=?_) (round:=fun k hI=>?_)
  ·exact ⟨Xj _,rfl⟩
  ·obtain ⟨hk,hx⟩:=hI;by_cases hlt:k<l.length
   ·have e0:=Qq hlt;have e1:=A0t e0;rw [Zq hlt,A2X] at hx;generalize hv:l[k]=v at*;cases k with
    | zero=>
     simp only [reduceCtorEq,false_and,exists_false,if_false] at hx
     repeat' (first|((first|(refine zT ?_;intro K' hK')|(refine zG ?_ ?_<;>(try refine zH ?_)<;>intro hguard<;>(try exact zX)<;>try intro K' hK'))<;>((try simp+contextual only [go_sem,e1,Int.toNat_natCast,ZQ]);(repeat' first|(with_reducible refine hK' _ _ ?_;clear hK' K')|(with_reducible refine zK (A8m _ _) ?_;try simp+contextual only [go_sem,e1,Int.toNat_natCast,ZQ])|exact zY|with_reducible refine Qw5 ?_ ?_|(with_reducible intro hpath;try exact zP)|(refine hK' _ _ ?_;clear hK' K')|fail);try refine zS ?_))|(refine zE ?_;refine hK _ _ ?_;clear hK K)|(refine zN ?_;try refine zS ?_)|refine zA ?_|(refine zB ?_;intro K hK)|(refine zC ?_ ?_<;>(try refine zH ?_)<;>intro hcond<;>try exact zX)|fail)
     ·rw [if_pos (by assumption)] at hx;simp [A0y,A0x,Blk.cells,ty,Tryz.results90,A0s,A0u,toT,A0e,A0b,A0c,A0a,A0k,hx]
     ·rw [if_neg (by omega)] at hx;refine ⟨0+1,A0r.headN 1 37 [1,2,13,14,15] zW,?_,?_⟩
      ·exact ⟨hlt,hx.trans (by simp only [e0])⟩
      ·omega
    | succ j=>
     have e2:=Qq (show j<l.length by omega);have e3:=A0t e2;have hj1:((j+1:Nat):Int)-1=(j:Int):=by omega
     simp only [e2,Jz,exists_eq_left'] at hx;generalize hu:l[j]=u at*
     repeat' (first|((first|(refine zT ?_;intro K' hK')|(refine zG ?_ ?_<;>(try refine zH ?_)<;>intro hguard<;>(try exact zX)<;>try intro K' hK'))<;>((try simp+contextual only [go_sem,e1,e3,hj1,Int.toNat_natCast,ZQ]);(repeat' first|(with_reducible refine hK' _ _ ?_;clear hK' K')|(with_reducible refine zK (A8m _ _) ?_;try simp+contextual only [go_sem,e1,e3,hj1,Int.toNat_natCast,ZQ])|exact zY|with_reducible refine Qw5 ?_ ?_|(with_reducible intro hpath;try exact zP)|(refine hK' _ _ ?_;clear hK' K')|fail);try refine zS ?_))|(refine zE ?_;refine hK _ _ ?_;clear hK K)|(refine zN ?_;try refine zS ?_)|refine zA ?_|(refine zB ?_;intro K hK)|(refine zC ?_ ?_<;>(try refine zH ?_)<;>intro hcond<;>try exact zX)|fail)
     ·rw [if_pos (by assumption)] at hx;simp [A0y,A0x,Blk.cells,ty,Tryz.results90,A0s,A0u,toT,A0e,A0b,A0c,A0a,A0k,hx]
     ·rw [if_neg (by omega),if_pos (by assumption)] at hx;simp [A0y,A0x,Blk.cells,ty,Tryz.results90,A0s,A0u,toT,A0e,A0b,A0c,A0a,A0k,hx]
     ·rw [if_neg (by omega),if_neg (by omega)] at hx;refine ⟨j+1+1,A0r.headN 1 37 [1,2,13,14,15] zW,?_,?_⟩
      ·exact ⟨hlt,hx.trans (by simp only [e0])⟩
      ·omega
   ·have e:k=l.length:=by omega
    have e:A2X g.n none l=0:=by rw [hx,e,Vk]; rfl
    refine zR (zc @ZQ Qw6) Qw6 Qw6 ?_;simp [A0y,A0x,Blk.cells,ty,Tryz.results90,A0s,A0u,toT,A0e,A0b,A0c,A0a,A0k,e]
def B9U (set:List Int) (p:Int×Int):Bool:= !decide (decide (p.1∈set)=decide (p.2∈set))
def B9V (set:List Int) (l:List (Int×Int)):List Int:=l.zipIdx.filterMap fun q=>if B9U set q.1 then some (q.2:Int) else none
def sumR (f:Nat->Int):Nat->Int
 | 0=>0
 | n+1=>sumR f n+f n
theorem A3I (f g:Nat->Int) (n:Nat):sumR (fun i=>f i+g i) n=sumR f n+sumR g n:=by
 induction n with
 | zero=>rfl
 | succ n ih=>simp only [sumR,ih]; omega
theorem A2N {f:Nat->Int} {n:Nat} (h: ∀i,i<n->f i=0):sumR f n=0:=by
 induction n with
 | zero=>rfl
 | succ n ih=>simp only [sumR,ih fun i hi=>h i (by omega),h n (by omega)]; rfl
theorem A1w {f g:Nat->Int} {n:Nat} (h: ∀i,i<n->f i=g i):sumR f n=sumR g n:=by
 induction n with
 | zero=>rfl
 | succ n ih=>simp only [sumR,ih fun i hi=>h i (by omega),h n (by omega)]
theorem A9B {f:Nat->Int} {n:Nat} {k:Int} (h: ∀i,i<n->0≤f i∧f i≤k):0≤sumR f n∧sumR f n≤k*n:=by
 induction n with
 | zero=>simp [sumR]
 | succ n ih=>
  have h1:=ih fun i hi=>h i (by omega);have h2:=h n (by omega);have h3:k*((n+1:Nat):Int)=k*(n:Int)+k:=by rw [Int.natCast_add,Int.mul_add]; simp
  simp only [sumR]; omega
theorem A3J {c m:Int}: ∀{n:Nat},0≤c->c<n->sumR (fun i=>if (i:Int)=c then m else 0) n=m:=by
 intro n
 induction n with
 | zero=>intro h1 h2; omega
 | succ n ih=>
  intro h1 h2;simp only [sumR];by_cases e:(n:Int)=c
  ·rw [if_pos e,A2N (fun i hi=>if_neg (by omega))]; omega
  ·rw [if_neg e,ih h1 (by omega)]; omega
theorem A5z {es:List E} (h:es.Pairwise ltE):distinctE es:=h.imp fun {x y} h=>by unfold ltE at h; unfold neE; omega
theorem B7o {es:List E} {a b:Int} (h: ∀x,x∈es-> ¬(x.a=a∧x.b=b)):A1E es a b=0:=by
 induction es with
 | nil=>rfl
 | cons x xs ih=>simp only [A1E]; rw [if_neg (h x (by simp)),ih fun y hy=>h y (by simp [hy])]
theorem A83 {x:E} {xs:List E} (h:distinctE (x::xs)) (a b:Int):A1E (x::xs) a b=(if x.a=a∧x.b=b then x.m else 0)+A1E xs a b:=by
 simp only [A1E];by_cases hx:x.a=a∧x.b=b
 ·rw [if_pos hx,if_pos hx,B7o fun y hy=>by
   have:=(YV.1 h).1 y hy
   unfold neE at this; omega]
  omega
 ·rw [if_neg hx,if_neg hx]; omega
theorem A6I (x:E) (xs:List E):endsL (x::xs)=List.replicate x.m.toNat (x.a,x.b)++endsL xs:=by simp [endsL]
theorem B9W (v:Int) (p:Int×Int) (k:Nat):A6x v (List.replicate k p)=k*(b2i (p.1=v)+b2i (p.2=v)):=by
 induction k with
 | zero=>simp [A6x]
 | succ k ih=>rw [List.replicate_succ]; simp only [A6x,ih]; rw [Int.natCast_add,Int.add_mul]; omega
theorem B4b {es:List E} (hd:distinctE es) (hm: ∀x,x∈es->1≤x.m) (v:Int):A6x v (endsL es)=B7c v es+2*A1E es v v:=by
 induction es with
 | nil=>rfl
 | cons x xs ih=>
  have h1:=hm x (by simp);have h2:=ih (YV.1 hd).2 fun y hy=>hm y (by simp [hy]);rw [A6I,A81,B9W,h2,A83 hd,B7c];have e:((x.m.toNat:Nat):Int)=x.m:=by omega
  rw [e];simp only [b2i];by_cases ha:x.a=v<;>by_cases hb:x.b=v
  ·simp [ha,hb]; omega
  ·simp [ha,hb]; rw [if_neg (fun h=>hb h.symm)]; omega
  ·simp [ha,hb]; omega
  ·simp [ha,hb]
theorem C1S {n:Nat} {es:List E} (hd:distinctE es) (hr: ∀x,x∈es->0≤x.a∧x.a≤x.b∧x.b<n) (v:Int):
  sumR (fun u=>A1E es (min v u) (max v u)) n=B7c v es+A1E es v v:=by
 induction es with
 | nil=>simp only [A1E,B7c]; rw [A2N fun _ _=>rfl]; rfl
 | cons x xs ih=>
  have h1:=hr x (by simp);have h2:=ih (YV.1 hd).2 fun y hy=>hr y (by simp [hy]);have h3:sumR (fun u=>A1E (x::xs) (min v u) (max v u)) n=sumR (fun u=>if x.a=min v (u:Int)∧x.b=max v (u:Int) then x.m else 0) n+sumR (fun u=>A1E xs (min v u) (max v u)) n:=by
   rw [<-A3I]; exact A1w fun i _=>A83 hd _ _
  rw [h3,h2,A83 hd,B7c];by_cases ha:x.a=v
  ·have h4:sumR (fun u=>if x.a=min v (u:Int)∧x.b=max v (u:Int) then x.m else 0) n=x.m:=by
    rw [A1w (g:=fun u=>if (u:Int)=x.b then x.m else 0),A3J (by omega) (by omega)];intro i _;by_cases hi:(i:Int)=x.b
    ·rw [if_pos hi,if_pos (by omega)]
    ·rw [if_neg hi,if_neg (by omega)]
   rw [h4];by_cases hb:x.b=v
   ·rw [if_neg (by omega),if_pos (by omega)]; omega
   ·rw [if_pos (by omega),if_neg (by omega)]; omega
  ·by_cases hb:x.b=v
   ·have h4:sumR (fun u=>if x.a=min v (u:Int)∧x.b=max v (u:Int) then x.m else 0) n=x.m:=by
     rw [A1w (g:=fun u=>if (u:Int)=x.a then x.m else 0),A3J (by omega) (by omega)];intro i _;by_cases hi:(i:Int)=x.a
     ·rw [if_pos hi,if_pos (by omega)]
     ·rw [if_neg hi,if_neg (by omega)]
    rw [h4,if_pos (by omega),if_neg (by omega)]; omega
   ·rw [A2N fun i _=>if_neg (by omega),if_neg (by omega),if_neg (by omega)]; omega
theorem C1T {n:Nat} {l:List (Int×Int)} (hr: ∀p,p∈l->(0≤p.1∧p.1<n)∧(0≤p.2∧p.2<n)):sumR (fun v=>A6x v l) n=2*l.length:=by
 induction l with
 | nil=>simp only [A6x]; rw [A2N fun _ _=>rfl]; rfl
 | cons p l ih=>
  have h1:=hr p (by simp);have h2:=ih fun q hq=>hr q (by simp [hq]);have h3:sumR (fun v=>A6x v (p::l)) n=sumR (fun v=>if (v:Int)=p.1 then 1 else 0) n+sumR (fun v=>if (v:Int)=p.2 then 1 else 0) n+sumR (fun v=>A6x v l) n:=by
   rw [<-A3I,<-A3I];refine A1w fun i _=> ?_;simp only [A6x,b2i];congr 1;congr 1
   ·by_cases e:p.1=(i:Int)
    ·rw [if_pos e,if_pos e.symm]
    ·rw [if_neg e,if_neg fun h=>e h.symm]
   ·by_cases e:p.2=(i:Int)
    ·rw [if_pos e,if_pos e.symm]
    ·rw [if_neg e,if_neg fun h=>e h.symm]
  rw [h3,h2,A3J h1.1.1 h1.1.2,A3J h1.2.1 h1.2.2,List.length_cons];omega
theorem B7p {g:G} {n:Nat} (hc:checkG g=0) (hn:g.n=n):
  sumR (fun v=>B7c v g.es+2*A1E g.es v v) n=2*(endsL g.es).length∧
  (∀v:Int,A6x v (endsL g.es)=B7c v g.es+2*A1E g.es v v)∧
  (∀v:Int,sumR (fun u=>A1E g.es (min v u) (max v u)) n=B7c v g.es+A1E g.es v v):=by
 obtain ⟨h1,h2,h3⟩:=A0j.1 hc;have hd:=A5z h3;have hv: ∀v:Int,A6x v (endsL g.es)=B7c v g.es+2*A1E g.es v v:=B4b hd fun x hx=>by have:=h2 x hx; unfold okE at this; omega
 refine ⟨?_,hv,fun v=>C1S hd (fun x hx=>by have:=h2 x hx; unfold okE at this; omega) v⟩;rw [<-C1T (n:=n) (l:=endsL g.es)]
 ·exact A1w fun i _=>(hv _).symm
 ·intro p hp;obtain ⟨e,he,hx⟩:=Vw.1 hp;obtain rfl:=List.eq_of_mem_replicate hx;have:=h2 e he;unfold okE at this;simp only; omega
end Go.Proofs.YtdbdfkohpjefjaaGreat
