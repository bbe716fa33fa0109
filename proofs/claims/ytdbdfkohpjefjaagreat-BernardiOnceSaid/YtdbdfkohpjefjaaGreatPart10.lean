/- A part of the proof. -/
import Derived.Test.YtdbdfkohpjefjaaGreatPart09
import Derived.Test.YtdbdfkohpjefjaaGreatPart08
set_option linter.all false
set_option maxHeartbeats 4000000
set_option maxRecDepth 100000
namespace Go.Proofs.YtdbdfkohpjefjaaGreat
open Go.Sp
instance:DecidableEq E:=fun x y=>decidable_of_iff (x.a=y.a∧x.b=y.b∧x.m=y.m) (by cases x; cases y; simp)
def fT (F:List Nat):List Tree:=F.map fun (n:Nat)=>Tree.int .i64 (n:Int)
def fC (F:List Nat):List ACell:=F.map fun (n:Nat)=>ACell.int .i64 (n:Int)
structure FOk (F:List Nat):Prop where
 len:F.length=12
 le: ∀i (h:i<F.length),F[i]≤i
theorem B3y {F:List Nat} {i:Nat} (h:i<F.length):(fT F).drop i= .int .i64 F[i]::(fT F).drop (i+1):=by
 have h':i<(fT F).length:=by simp [fT,h]
 rw [XV h'];simp [fT]
def rootF (F:List Nat):Nat->Nat->Nat
 | 0,v=>v
 | n+1,v=>if F.getD v v=v then v else rootF F n (F.getD v v)
theorem B6f {F:List Nat} (h:FOk F): ∀{n m v:Nat},v<12->v≤n->v≤m->rootF F n v=rootF F m v:=by
 intro n
 induction n with
 | zero=>
  intro m v _ h1 h2;have:v=0:=by omega
  subst this;cases m with
  | zero=>rfl
  | succ m=>
   have h3:=h.le 0 (by rw [h.len]; omega);simp only [rootF];rw [Qz,Qq (by rw [h.len]; omega),Option.getD_some,if_pos (by omega)]
 | succ n ih=>
  intro m v hv h1 h2;have hl:v<F.length:=by rw [h.len]; exact hv
  have h3:=h.le v hl;have e:F.getD v v=F[v]:=by rw [Qz,Qq hl,Option.getD_some]
  cases m with
  | zero=>
   have:v=0:=by omega
   subst this;simp only [rootF,e];rw [if_pos (by omega)]
  | succ m=>
   simp only [rootF,e];by_cases hx:F[v]=v
   ·rw [if_pos hx,if_pos hx]
   ·rw [if_neg hx,if_neg hx];exact ih (by omega) (by omega) (by omega)
theorem A2M {F:List Nat} (h:FOk F) {v:Nat} (hv:v<F.length):rootF F 12 v=if F[v]=v then v else rootF F 12 F[v]:=by
 have hv':v<12:=by rw [<-h.len]; exact hv
 have e:F.getD v v=F[v]:=by rw [Qz,Qq hv,Option.getD_some]
 have h3:=h.le v hv;have:rootF F 12 v=if F[v]=v then v else rootF F 11 F[v]:=by
  show (if F.getD v v=v then v else rootF F 11 (F.getD v v))=_;rw [e]
 rw [this];by_cases hx:F[v]=v
 ·rw [if_pos hx,if_pos hx]
 ·rw [if_neg hx,if_neg hx]; exact B6f h (by omega) (by omega) (by omega)
theorem A2w {F:List Nat} (h:FOk F): ∀{n v:Nat},v<12->rootF F n v≤v:=by
 intro n
 induction n with
 | zero=>intro v _; exact QQ _
 | succ n ih=>
  intro v hv;have hl:v<F.length:=by rw [h.len]; exact hv
  have h3:=h.le v hl;have e:F.getD v v=F[v]:=by rw [Qz,Qq hl,Option.getD_some]
  simp only [rootF,e];split
  ·exact QQ _
  ·exact Yk (ih (by omega)) h3
theorem C3v (F:List Nat) (h:FOk F) (v:Nat) (hv:v<12):ACall Tryz.prog 95 [.t (.rptr (fT F)),A0k v] (A0k (rootF F 12 v)):=by
 have hF:=h.len;refine ACall.of_body Tryz.func95 rfl (by kernel_rfl) ?_;simp only [entry,Tryz.ntmps95,A0k];refine zU ?_;refine zR Qw9 Qw9 Qw9 ?_;refine AWp.loopS (α:=Nat) 18 (fun u=>[(0,.c (.rptr (fT F))),(1,.c (.int .i64 (u:Int)))]) (fun u=>[]) (fun u=>u<12∧rootF F 12 v=rootF F 12 u) (fun u=>u) (v) (hk:=Weak.headL 0 18 [0,1] zW) (h0:=?_) (round:=fun u hI=>?_)
 ·exact ⟨hv,rfl⟩
 ·obtain ⟨hu,hx⟩:=hI;have hul:u<F.length:=by omega
  have e1:=B3y hul;have e2:=A2M h hul;have e3:=h.le u hul
  repeat' (first|((first|(refine zT ?_;intro K' hK')|(refine zG ?_ ?_<;>(try refine zH ?_)<;>intro hguard<;>(try exact zX)<;>try intro K' hK'))<;>((try simp+contextual only [go_sem,e1,Int.toNat_natCast,Yj]);(repeat' first|(with_reducible refine hK' _ _ ?_;clear hK' K')|exact zY|with_reducible refine Qw8 ?_ ?_|(with_reducible intro hpath;try exact zP)|(refine hK' _ _ ?_;clear hK' K')|fail);try refine zS ?_))|(refine zE ?_;refine hK _ _ ?_;clear hK K)|(refine zN ?_;try refine zS ?_)|refine zA ?_|(refine zB ?_;intro K hK)|(refine zC ?_ ?_<;>(try refine zH ?_)<;>intro hcond<;>try exact zX)|fail)
  ·rw [if_neg (by omega)] at e2;refine ⟨F[u],Weak.headN 0 18 [0,1] zW,?_,?_⟩
   ·exact ⟨by omega,by rw [hx,e2]⟩
   ·omega
  ·rw [if_pos (by omega)] at e2;have e:rootF F 12 v=u:=by rw [hx,e2]
   simp [A0y,A0x,Blk.cells,ty,Tryz.results95,A0s,A0t,toT,A0d,A0b,A0c,A0a,A0k,e]
def A1H (s:List Nat×Int) (p:Int×Int):List Nat×Int:=
 let a:=rootF s.1 12 p.1.toNat;let b:=rootF s.1 12 p.2.toNat
 (s.1.set (max a b) (min a b),if a=b then s.2+1 else s.2)
def genS (l:List (Int×Int)):List Nat×Int:=l.foldl A1H (List.range 12,0)
def C0x (l:List (Int×Int)):Int:=(genS l).2
theorem A8G (l:List (Int×Int)) (p:Int×Int):genS (l++[p])=A1H (genS l) p:=by simp [genS]
theorem B0a {s:List Nat×Int} {p:Int×Int} (h:FOk s.1) (h1:0≤p.1∧p.1<12) (h2:0≤p.2∧p.2<12):FOk (A1H s p).1:=by
 refine ⟨by simp [A1H,h.len],fun i hi=> ?_⟩;simp only [A1H] at hi ⊢;rw [Qx7];split
 ·omega
 ·exact h.le i (by simpa using hi)
theorem B8o {l:List (Int×Int)} (h: ∀p,p∈l->(0≤p.1∧p.1<12)∧(0≤p.2∧p.2<12)):FOk (genS l).1∧0≤(genS l).2∧(genS l).2≤l.length:=by
 have key: ∀(l:List (Int×Int)) (s:List Nat×Int),FOk s.1->(∀p,p∈l->(0≤p.1∧p.1<12)∧(0≤p.2∧p.2<12))->FOk (l.foldl A1H s).1∧s.2≤(l.foldl A1H s).2∧(l.foldl A1H s).2≤s.2+l.length:=by
  intro l
  induction l with
  | nil=>intro s hs _; simp; exact hs
  | cons p l ih=>
   intro s hs hp;have hp1:=hp p (by simp);obtain ⟨q1,q2,q3⟩:=ih (A1H s p) (B0a hs hp1.1 hp1.2) fun q hq=>hp q (by simp [hq]);refine ⟨q1,?_,?_⟩
   ·refine Int.le_trans ?_ q2; simp only [A1H]; split<;>omega
   ·refine Int.le_trans q3 ?_; simp only [A1H,List.length_cons]; split<;>omega
 have:=key l (List.range 12,0) ⟨by simp,fun i hi=>by simp⟩ h;unfold genS;simpa using this
theorem A7z (F:List Nat) (i n:Nat):setMany (fC F) i [.int .i64 (n:Int)]=fC (F.set i n):=by
 simp only [setMany,fC];rw [Qj5]
theorem A4N (F:List Nat) (i n:Nat):(fC F).set i (.int .i64 (n:Int))=fC (F.set i n):=by
 simp only [fC];rw [Qj5]
theorem C1g (l:List (Int×Int)):(genS l).1.length=12:=by
 have key: ∀(l:List (Int×Int)) (s:List Nat×Int),s.1.length=12->(l.foldl A1H s).1.length=12:=by
  intro l
  induction l with
  | nil=>intro s hs; exact hs
  | cons p l ih=>intro s hs; exact ih _ (by simp [A1H,hs])
 exact key l _ (by simp)
theorem C3w (l:List (Int×Int)): ¬fC (genS l).1=[]:=fun h=>by
 have:=congrArg List.length h;simp [fC,C1g] at this
theorem A0V (F:List Nat):(fC F).length=F.length:=by simp [fC]
theorem A3L {es:List E} {p:Int×Int} (h:p∈endsL es): ∃e,e∈es∧p=(e.a,e.b):=by
 unfold endsL at h;obtain ⟨e,he,hp⟩:=Jz.1 h;exact ⟨e,he,(Wq.1 hp).2⟩
theorem ends_range {g:G} (hc:checkG g=0) {p:Int×Int} (h:p∈endsL g.es):(0≤p.1∧p.1<g.n)∧(0≤p.2∧p.2<g.n):=by
 obtain ⟨e,he,rfl⟩:=A3L h;have:=(A0h.1 hc).2.1 e he;unfold okE at this;simp only; omega
theorem B0R (F:List Nat):(fC F).mapM A0a=some (fT F):=by
 induction F with
 | nil=>rfl
 | cons x xs ih=>
  simp only [fC,fT,Xk,JX,A0a] at ih ⊢;rw [ih]; rfl
theorem B2a (F:List Nat) (h:FOk F) (v:Nat) (hv:v<12) {H:List Blk} {id:Nat} (hb:H[id]? =some (.box (fC F))):
  ACallH Tryz.prog 95 H [.c (.ptr id 0),.c (.int .i64 (v:Int))] H (.c (.int .i64 (rootF F 12 v:Nat))):=
 ACall.hb (C3v F h v hv) (by simp [toT,A0d,A0b,hb,Blk.cells,B0R,A0a,A0k]) rfl
def A7c (i:Nat):List Nat:=List.range i++List.replicate (12-i) 0
theorem A8H {i:Nat} (h:i<12):(A7c i).set i i=A7c (i+1):=by
 unfold A7c;rw [show 12-i=(12-(i+1))+1 by omega,List.replicate_succ,Jq];rw [JV _ _ (by simp)];simp
theorem A8I {i:Nat} (h:i≤12):(A7c i).length=12:=by unfold A7c; simp; omega
theorem B0S:A7c 12=List.range 12:=by unfold A7c; simp
theorem C1h (g:G) (hl:g.es.length<2^30):ACall Tryz.prog 46 [tG g] (.tup [A0k (if checkG g≠0 then 0 else C0x (endsL g.es)),A0k (checkG g)]):=by
 refine ACall.of_body Tryz.func46 rfl (by kernel_rfl) ?_;simp only [entry,Tryz.ntmps46,tG];refine zU ?_
 repeat' (first|((first|(refine zT ?_;intro K' hK')|(refine zG ?_ ?_<;>(try refine zH ?_)<;>intro hguard<;>(try exact zX)<;>try intro K' hK'))<;>((try simp+contextual only [go_sem]);(repeat' first|(with_reducible refine hK' _ _ ?_;clear hK' K')|(with_reducible refine zL (c:=A7J g (by omega)) (q:=?_);try simp+contextual only [go_sem])|exact zY|with_reducible refine Qw8 ?_ ?_|(with_reducible intro hpath;try exact zP)|(refine hK' _ _ ?_;clear hK' K')|fail);try refine zS ?_))|(refine zE ?_;refine hK _ _ ?_;clear hK K)|(refine zN ?_;try refine zS ?_)|refine zA ?_|(refine zB ?_;intro K hK)|(refine zC ?_ ?_<;>(try refine zH ?_)<;>intro hcond<;>try exact zX)|fail)
 ·rw [if_pos (by assumption)];simp [A0y,A0x,Blk.cells,ty,Tryz.results46,A0s,A0t,toT,A0d,A0b,A0c,A0a,A0k]
 ·rw [if_neg (by omega)];have hc:checkG g=0:=by omega
  have hs:=A9y hl hc;refine AWp.loopS (α:=Nat) 47 (fun i=>[(1,.c (.ptr 0 0)),(5,.c (.ptr 1 0)),(17,.c (.int .i64 (i:Int)))]) (fun i=>[.box [.int .i64 g.n,.slice (A0f g.es) .none],.box (fC (A7c i))]) (fun i=>i≤12) (fun i=>12-i) (0) (hk:=Weak.headL 2 47 [1,5,17] zW) (h0:=?_) (round:=fun i hI=>?_)
  ·exact Xj _
  ·by_cases hlt:i<12
   ·have hset:=A8H hlt;have hlen:=A8I hI;generalize A7c i=F at*;refine zR (zc @A0V (zc @hlen (zc @A7z (zc @A4N (zc @hset Qw9))))) Qw9 Qw9 ?_;refine ⟨i+1,Weak.headN 2 47 [1,5,17] zW,?_,?_⟩
    ·exact hlt
    ·omega
   ·have ei:i=12:=by omega
    subst ei;refine zR Qw9 (zc (A9R g) Qw9) Qw9 ?_;refine AWp.weak (Weak.head (m:=3) (by omega) ((fun t f=>[f,t,f,f,f,t,f,t,f,f,f,f,f,f,f,f,f,f,f,f,f,f,f,f,f,t,f,f,f,f,f,f,f,f,f,f,f,f,f,f,f,f,f,f,f,f,f]) true false) (by first | rfl | simp [mask]) (by first | rfl | simp) (by (repeat' (first | exact A0n _ | refine A0j ?_ ?_ | refine A0g ?_ ?_ | exact A0i _ | exact Qw7 | (show _<_; omega) | (intro c hc; cases hc; done) | (intro c hc; simp only [Qw,Qk,or_false] at hc; subst hc; first | exact Qw7 | (show _<_; omega)) | (intro c hc; simp only [Qw,Qk,or_false] at hc; rcases hc with rfl | rfl<;>first | exact Qw7 | (show _<_; omega))))) (by (repeat' (first | exact A0n _ | exact A0v _ | exact A0i _ | refine Qw8 ?_ ?_ | refine A0j ?_ ?_ | refine A0l ?_ ?_ | refine A0g ?_ ?_ | exact Qw7 | (show _<_; omega) | exact A0q (fun _=>Qw7) | (intro c hc; cases hc; done) | (intro c hc; simp only [Qw,Qk,or_false] at hc; subst hc; first | exact Qw7 | (show _<_; omega)) | (intro c hc; simp only [Qw,Qk,or_false] at hc; rcases hc with rfl | rfl<;>first | exact Qw7 | (show _<_; omega)))))) (AWp.rangeFunc (fun k H=>H=[.box [.int .i64 g.n,.slice (A0f g.es) .none],.box (fC (genS ((endsL g.es).take k)).1),.box [.int .i64 (genS ((endsL g.es).take k)).2]]∧(True)) (fun _ _=>False) 3 rfl (A88 g hs.s hs.es hs.m) (B1S rfl) (by omega) (by (repeat' (first | exact A0n _ | refine A0j ?_ ?_ | refine A0g ?_ ?_ | exact A0i _ | exact Qw7 | (show _<_; omega) | (intro c hc; cases hc; done) | (intro c hc; simp only [Qw,Qk,or_false] at hc; subst hc; first | exact Qw7 | (show _<_; omega)) | (intro c hc; simp only [Qw,Qk,or_false] at hc; rcases hc with rfl | rfl<;>first | exact Qw7 | (show _<_; omega))))) (by rintro _ _ ⟨rfl,-⟩; simp [C3w]) (fun _ _ h=>h.elim) ?_ (fun l k ts H hts hI=> ?_) (fun H hI=> ?_) (fun e H h=>h.elim))
    ·exact ⟨by rw [B0S]; simp [genS],trivial⟩
    ·obtain ⟨rfl,-⟩:=hI;obtain ⟨p,hp,rfl⟩:=A6X hts;have hrng:=ends_range hc (Qy hp);have hn12:=(A0h.1 hc).1;have hok:=B8o (l:=(endsL g.es).take k) fun q hq=>by
      have:=ends_range hc (VQ hq); omega
     have hk:k<(endsL g.es).length:=(Qx.1 hp).1;have hkl:((endsL g.es).take k).length≤k:=by rw [Wv]; omega
     have hsn:=take_snoc hp;have hnx:=A8G ((endsL g.es).take k) p;rw [<-hsn] at hnx;have hs3:=hs.s;obtain ⟨p1,p2⟩:=p;obtain ⟨a,rfl⟩:=XW hrng.1.1;obtain ⟨b,rfl⟩:=XW hrng.2.1;have ha:a<12:=by omega
     have hb:b<12:=by omega
     generalize genS ((endsL g.es).take k)=s at*;obtain ⟨F,c⟩:=s;have hF:=hok.1;have la:=A2w hF (n:=12) ha;have lb:=A2w hF (n:=12) hb;simp only [A1H,Int.toNat_natCast] at hnx;simp only [mask,A4u,List.zip_cons_cons,WV,List.zip_nil_left,List.foldl_cons,List.foldl_nil,List.set_cons_succ,List.set_cons_zero,ofT,A2T,A04,Xk,Zj,ofT,A2T,toT,A0t,A0a,A0k,A0z,A3o,tG,A0C,A0m];generalize hx:rootF F 12 a=x at*;generalize hy:rootF F 12 b=y at*;have hmax:max (x:Int) (y:Int)=((max x y:Nat):Int):=by omega
     have hmin:min (x:Int) (y:Int)=((min x y:Nat):Int):=by omega
     have rx:=B2a F hF a ha (H:=[.box [.int .i64 g.n,.slice (A0f g.es) .none],.box (fC F),.box [.int .i64 c],.box [.int .i64 (a:Int),.int .i64 (b:Int)]]) (id:=1) rfl;have ry:=B2a F hF b hb (H:=[.box [.int .i64 g.n,.slice (A0f g.es) .none],.box (fC F),.box [.int .i64 c],.box [.int .i64 (a:Int),.int .i64 (b:Int)]]) (id:=1) rfl;rw [hx] at rx;rw [hy] at ry
     repeat' (first|((first|(refine zT ?_;intro K' hK')|(refine zG ?_ ?_<;>(try refine zH ?_)<;>intro hguard<;>(try exact zX)<;>try intro K' hK'))<;>((try simp+contextual only [go_sem,Int.toNat_natCast,Yj,A0V,A7z,A4N,hmax,hmin,hF.len]);(repeat' first|(with_reducible refine hK' _ _ ?_;clear hK' K')|((with_reducible first|refine ⟨_,_,rx,?_⟩|refine ⟨_,rx,?_⟩|refine ⟨_,_,ry,?_⟩|refine ⟨_,ry,?_⟩);try simp+contextual only [go_sem,Int.toNat_natCast,Yj,A0V,A7z,A4N,hmax,hmin,hF.len])|exact zY|with_reducible refine Qw8 ?_ ?_|(with_reducible intro hpath;try exact zP)|(refine hK' _ _ ?_;clear hK' K')|fail);try refine zS ?_))|(refine zE ?_;refine hK _ _ ?_;clear hK K)|(refine zN ?_;try refine zS ?_)|refine zA ?_|(refine zB ?_;intro K hK)|(refine zC ?_ ?_<;>(try refine zH ?_)<;>intro hcond<;>try exact zX)|fail)
     all_goals
      refine ⟨⟨_,_⟩,Weak.head2 (m:=3) (by decide) ((fun t f=>[f,f,f,f,f,f,f,f,f,f,f,f,f,f,f,f,f,f,f,f,f,f,f,f,f,f,f,f,f,f,f,f,f,f,f,f,f,f,f,f,f,f,f,f,f,f,f]) true false) rfl rfl zW,?_,?_⟩
      ·have hxy:(x=y)∨ ¬(x=y):=Classical.em _;have hg:genS (List.take (k+1) (endsL g.es))=(F.set (max x y) (min x y),if x=y then c+1 else c):=hnx;rw [hg];rcases hxy with hxy | hxy
       ·first
         | (simp [hxy]; done)
         | (exfalso; omega)
       ·first
         | (simp [hxy]; done)
         | (exfalso; omega)
      ·trivial
    ·obtain ⟨rfl,-⟩:=hI;simp only [mask];have e0:checkG g=0:=hc;refine zR Qw9 Qw9 Qw9 ?_;simp [A0y,A0x,Blk.cells,ty,Tryz.results46,A0s,A0t,toT,A0d,A0b,A0c,A0a,A0k,A6W,e0,C0x]
def b2i (p:Prop) [Decidable p]:Int:=if p then 1 else 0
def A6G (v:Int):List (Int×Int)->Int
 | []=>0
 | p::l=>b2i (p.1=v)+b2i (p.2=v)+A6G v l
theorem A8J (v:Int) (a b:List (Int×Int)):A6G v (a++b)=A6G v a+A6G v b:=by
 induction a with
 | nil=>simp [A6G]
 | cons x xs ih=>simp only [List.cons_append,A6G,ih]; omega
theorem B8p (v:Int) (l:List (Int×Int)) (p:Int×Int):A6G v (l++[p])=A6G v l+b2i (p.1=v)+b2i (p.2=v):=by
 rw [A8J]; simp only [A6G]; omega
def A2h (n:Int):Option Int->List Int->Int
 | _,[]=>0
 | p,v::l=>if ¬(0≤v∧v<n) then 2 else if (∃u,p=some u∧v≤u) then 9 else A2h n (some v) l
def B2O (g:G) (l:List Int):Int:=if checkG g≠0 then checkG g else A2h g.n none l
theorem A8K (g:G) (l:List Int) (hg:g.es.length<2^40) (hl:l.length<2^40):ACall Tryz.prog 90 [tG g,A0m l] (A0k (B2O g l)):=by
 refine ACall.of_body Tryz.func90 rfl (by kernel_rfl) ?_;simp only [entry,Tryz.ntmps90,tG,A0m];refine zU ?_
 repeat' (first|((first|(refine zT ?_;intro K' hK')|(refine zG ?_ ?_<;>(try refine zH ?_)<;>intro hguard<;>(try exact zX)<;>try intro K' hK'))<;>((try simp+contextual only [go_sem,A0e]);(repeat' first|(with_reducible refine hK' _ _ ?_;clear hK' K')|(with_reducible refine zK (A7J g hg) ?_;try simp+contextual only [go_sem,A0e])|exact zY|with_reducible refine Qw8 ?_ ?_|(with_reducible intro hpath;try exact zP)|(refine hK' _ _ ?_;clear hK' K')|fail);try refine zS ?_))|(refine zE ?_;refine hK _ _ ?_;clear hK K)|(refine zN ?_;try refine zS ?_)|refine zA ?_|(refine zB ?_;intro K hK)|(refine zC ?_ ?_<;>(try refine zH ?_)<;>intro hcond<;>try exact zX)|fail)
 ·have e:B2O g l=checkG g:=by unfold B2O; rw [if_pos (by assumption)]
  simp [A0y,A0x,Blk.cells,ty,Tryz.results90,A0s,A0t,toT,A0d,A0b,A0c,A0a,A0k,e]
 ·have hc:checkG g=0:=by omega
  have e:B2O g l=A2h g.n none l:=by unfold B2O; rw [if_neg (by omega)]
  rw [e];refine AWp.loopS (α:=Nat) 37 (fun k=>[(1,.c (.slice (A0p l) .none)),(2,.c (.ptr 0 0)),(13,.c (.slice (A0p l) .none)),(14,.c (.int .i64 l.length)),(15,.c (.int .i64 (k:Int)))]) (fun k=>[.box [.int .i64 g.n,.slice (A0f g.es) .none]]) (fun k=>k≤l.length∧A2h g.n none l=A2h g.n (match k with | 0=>none | j+1=>l[j]?) (l.drop k)) (fun k=>l.length-k) (0) (hk:=Weak.headL 1 37 [1,2,13,14,15] zW) (h0:=?_) (round:=fun k hI=>?_)
  ·exact ⟨Xj _,rfl⟩
  ·obtain ⟨hk,hx⟩:=hI;by_cases hlt:k<l.length
   ·have e0:=Qq hlt;have e1:=A0u e0;rw [XV hlt,A2h] at hx;generalize hv:l[k]=v at*;cases k with
    | zero=>
     simp only [reduceCtorEq,false_and,exists_false,if_false] at hx
     repeat' (first|((first|(refine zT ?_;intro K' hK')|(refine zG ?_ ?_<;>(try refine zH ?_)<;>intro hguard<;>(try exact zX)<;>try intro K' hK'))<;>((try simp+contextual only [go_sem,e1,Int.toNat_natCast,ZX]);(repeat' first|(with_reducible refine hK' _ _ ?_;clear hK' K')|(with_reducible refine zK (A86 _ _) ?_;try simp+contextual only [go_sem,e1,Int.toNat_natCast,ZX])|exact zY|with_reducible refine Qw8 ?_ ?_|(with_reducible intro hpath;try exact zP)|(refine hK' _ _ ?_;clear hK' K')|fail);try refine zS ?_))|(refine zE ?_;refine hK _ _ ?_;clear hK K)|(refine zN ?_;try refine zS ?_)|refine zA ?_|(refine zB ?_;intro K hK)|(refine zC ?_ ?_<;>(try refine zH ?_)<;>intro hcond<;>try exact zX)|fail)
     ·rw [if_pos (by assumption)] at hx;simp [A0y,A0x,Blk.cells,ty,Tryz.results90,A0s,A0t,toT,A0d,A0b,A0c,A0a,A0k,hx]
     ·rw [if_neg (by omega)] at hx;refine ⟨0+1,Weak.headN 1 37 [1,2,13,14,15] zW,?_,?_⟩
      ·exact ⟨hlt,hx.trans (by simp only [e0])⟩
      ·omega
    | succ j=>
     have e2:=Qq (show j<l.length by omega);have e3:=A0u e2;have hj1:((j+1:Nat):Int)-1=(j:Int):=by omega
     simp only [e2,Jk,exists_eq_left'] at hx;generalize hu:l[j]=u at*
     repeat' (first|((first|(refine zT ?_;intro K' hK')|(refine zG ?_ ?_<;>(try refine zH ?_)<;>intro hguard<;>(try exact zX)<;>try intro K' hK'))<;>((try simp+contextual only [go_sem,e1,e3,hj1,Int.toNat_natCast,ZX]);(repeat' first|(with_reducible refine hK' _ _ ?_;clear hK' K')|(with_reducible refine zK (A86 _ _) ?_;try simp+contextual only [go_sem,e1,e3,hj1,Int.toNat_natCast,ZX])|exact zY|with_reducible refine Qw8 ?_ ?_|(with_reducible intro hpath;try exact zP)|(refine hK' _ _ ?_;clear hK' K')|fail);try refine zS ?_))|(refine zE ?_;refine hK _ _ ?_;clear hK K)|(refine zN ?_;try refine zS ?_)|refine zA ?_|(refine zB ?_;intro K hK)|(refine zC ?_ ?_<;>(try refine zH ?_)<;>intro hcond<;>try exact zX)|fail)
     ·rw [if_pos (by assumption)] at hx;simp [A0y,A0x,Blk.cells,ty,Tryz.results90,A0s,A0t,toT,A0d,A0b,A0c,A0a,A0k,hx]
     ·rw [if_neg (by omega),if_pos (by assumption)] at hx;simp [A0y,A0x,Blk.cells,ty,Tryz.results90,A0s,A0t,toT,A0d,A0b,A0c,A0a,A0k,hx]
     ·rw [if_neg (by omega),if_neg (by omega)] at hx;refine ⟨j+1+1,Weak.headN 1 37 [1,2,13,14,15] zW,?_,?_⟩
      ·exact ⟨hlt,hx.trans (by simp only [e0])⟩
      ·omega
   ·have e:k=l.length:=by omega
    have e:A2h g.n none l=0:=by rw [hx,e,Vk]; rfl
    refine zR (zc @ZX Qw9) Qw9 Qw9 ?_;simp [A0y,A0x,Blk.cells,ty,Tryz.results90,A0s,A0t,toT,A0d,A0b,A0c,A0a,A0k,e]
def C1i (set:List Int) (p:Int×Int):Bool:= !decide (decide (p.1∈set)=decide (p.2∈set))
def C1j (set:List Int) (l:List (Int×Int)):List Int:=l.zipIdx.filterMap fun q=>if C1i set q.1 then some (q.2:Int) else none
def A3h (F:Int->Int) (l:List E) (x:E):List E:=if 0≤F x.a∧0≤F x.b then A18 l (min (F x.a) (F x.b)) (max (F x.a) (F x.b)) x.m else l
def B3z (F:Int->Int) (es:List E):List E:=es.foldl (A3h F) []
theorem B8q {F:Int->Int} {es:List E} {i:Nat} (h:i<es.length):B3z F (es.take (i+1))=A3h F (B3z F (es.take i)) es[i]:=by
 rw [XX h]; simp only [B3z,Qj8,List.foldl_cons,List.foldl_nil]
structure MovOk (k:Nat) (es:List E):Prop where
 d:distinctE es
 len:es.length≤k
 r: ∀e,e∈es->(0≤e.a∧e.a<12)∧(0≤e.b∧e.b<12)
theorem C1k {F:Int->Int} {k:Nat} {es:List E} (h:MovOk k es) {x:E} (h1:F x.a<12) (h2:F x.b<12):MovOk (k+1) (A3h F es x):=by
 unfold A3h;split
 ·refine ⟨A4L h.d,Yk (A9U ..) (by have:=h.len; omega),fun e he=> ?_⟩;rcases A5m he with he | rfl
  ·exact h.r e he
  ·simp only; omega
 ·exact ⟨h.d,by have:=h.len; omega,h.r⟩
theorem C1l {k:Nat} {es:List E} (h:MovOk k es): ∀e,e∈mE es->(KShape.ints 2).ok e.1=true:=by
 intro e he;obtain ⟨x,hx,rfl⟩:=QJ.1 he;have:=h.r x hx;exact key_ok this.1 this.2
theorem C5b:mE []=[]:=rfl
theorem C1m (g:G) (n:Int) (f:Nat) (rows:List (List Tree)) (F:Int->Int) (hl:g.es.length<2^20)
  (hF: ∀x,x∈g.es->(ACall Tryz.prog f [A0k x.a,.t (.rptr [.slice rows])] (A0k (F x.a))∧F x.a<12)∧(ACall Tryz.prog f [A0k x.b,.t (.rptr [.slice rows])] (A0k (F x.b))∧F x.b<12)):
  ACall Tryz.prog 91 [tG g,A0k n,.t (.fn f [.rptr [.slice rows]])] (tG ⟨n,A3c (B3z F g.es)⟩):=by
 refine ACall.of_body Tryz.func91 rfl (by kernel_rfl) ?_;simp only [entry,Tryz.ntmps91,tG,A0k];refine zU ?_;refine zR (zc @A06 Qw9) Qw9 Qw9 ?_;rw [<-C5b];refine AWp.loopS (α:=Nat) 44 (fun i=>[(1,.c (.int .i64 n)),(2,.c (.fn f [.tree (.rptr [.slice rows])])),(3,.c (.ptr 0 0)),(6,.c (.ptr 1 0)),(7,.c (.map 2)),(14,.c (.slice (A0f g.es) .none)),(15,.c (.int .i64 g.es.length)),(16,.c (.int .i64 (i:Int)))]) (fun i=>[.box [.int .i64 g.n,.slice (A0f g.es) .none],.box [.int .i64 0,.nils],.map (mE (B3z F (g.es.take i)))]) (fun i=>i≤g.es.length∧MovOk i (B3z F (g.es.take i))) (fun i=>g.es.length-i) (0) (hk:=Weak.headL 3 44 [1,2,3,6,7,14,15,16] zW) (h0:=?_) (round:=fun i hI=>?_)
 ·exact ⟨Xj _,List.Pairwise.nil,by simp [B3z],by simp [B3z]⟩
 ·obtain ⟨hi,hbag⟩:=hI;by_cases hlt:i<g.es.length
  ·have e0:=Qq hlt;have e1:=A2e e0;have hnx:=B8q (F:=F) hlt;have hc:=hF _ (Xw hlt);have hst:=C1k (F:=F) hbag hc.1.2 hc.2.2;rw [<-hnx] at hst;have hks:=C1l hbag;generalize B3z F (g.es.take i)=es at*;generalize g.es[i]=x at*;have hk:0≤F x.a->0≤F x.b->(KShape.ints 2).ok (.ints [min (F x.a) (F x.b),max (F x.a) (F x.b)])=true:=fun h1 h2=>key_ok (by omega) (by omega)
   repeat' (first|((first|(refine zT ?_;intro K' hK')|(refine zG ?_ ?_<;>(try refine zH ?_)<;>intro hguard<;>(try exact zX)<;>try intro K' hK'))<;>((try simp+contextual only [go_sem,e1,Int.toNat_natCast,ZX,A15,B0P]);(repeat' first|(with_reducible refine hK' _ _ ?_;clear hK' K')|((with_reducible first|refine zK hc.1.1 ?_|refine zK hc.2.1 ?_|refine zK (B7P _ _) ?_);try simp+contextual only [go_sem,e1,Int.toNat_natCast,ZX,A15,B0P])|(refine ⟨_,C4V,hk (by assumption) (by assumption),hks,?_⟩ ; simp+contextual only [go_sem,e1,Int.toNat_natCast,ZX,A15,B0P])|exact zY|with_reducible refine Qw8 ?_ ?_|(with_reducible intro hpath;try exact zP)|(refine hK' _ _ ?_;clear hK' K')|fail);try refine zS ?_))|(refine zE ?_;refine hK _ _ ?_;clear hK K)|(refine zN ?_;try refine zS ?_)|refine zA ?_|(refine zB ?_;intro K hK)|(refine zC ?_ ?_<;>(try refine zH ?_)<;>intro hcond<;>try exact zX)|fail)
   ·have e:A3h F es x=A18 es (min (F x.a) (F x.b)) (max (F x.a) (F x.b)) x.m:=if_pos ⟨by assumption,by assumption⟩;rw [e] at hnx;refine ⟨i+1,Weak.headF 3 44 [1,2,3,6,7,14,15,16] (zc @hnx (zc @B0P Qw9)) zW,?_,?_⟩
    ·exact ⟨hlt,hst⟩
    ·omega
   all_goals
    have e:A3h F es x=es:=if_neg (by omega);rw [e] at hnx;refine ⟨i+1,Weak.headF 3 44 [1,2,3,6,7,14,15,16] (zc @hnx Qw9) zW,?_,?_⟩
    ·exact ⟨hlt,hst⟩
    ·omega
  ·have ei:i=g.es.length:=by omega
   subst ei;rw [Zy] at hbag ⊢;generalize B3z F g.es=L at*;have hLl:=hbag.len
   repeat' (first|((first|(refine zT ?_;intro K' hK')|(refine zG ?_ ?_<;>(try refine zH ?_)<;>intro hguard<;>(try exact zX)<;>try intro K' hK'))<;>((try simp+contextual only [go_sem,ZX]);(repeat' first|(with_reducible refine hK' _ _ ?_;clear hK' K')|((with_reducible first|refine ⟨_,_,ACallX.h1 (B4B n L hbag.d (by omega)) (by with_unfolding_all rfl) (by with_unfolding_all rfl),?_⟩|refine ⟨_,ACallX.h1 (B4B n L hbag.d (by omega)) (by with_unfolding_all rfl) (by with_unfolding_all rfl),?_⟩);try simp+contextual only [go_sem,ZX])|exact zY|with_reducible refine Qw8 ?_ ?_|(with_reducible intro hpath;try exact zP)|(refine hK' _ _ ?_;clear hK' K')|fail);try refine zS ?_))|(refine zE ?_;refine hK _ _ ?_;clear hK K)|(refine zN ?_;try refine zS ?_)|refine zA ?_|(refine zB ?_;intro K hK)|(refine zC ?_ ?_<;>(try refine zH ?_)<;>intro hcond<;>try exact zX)|fail)
   simp [A0y,A0x,Blk.cells,ty,Tryz.results91,A0s,A0t,toT,A0d,A0b,A0c,A0a,A0k,tG,A0f]
theorem B30 (l:List Int) (v:Int):A19 l v<l.length:=by
 induction l with
 | nil=>simp [A19]
 | cons x xs ih=>simp only [A19,List.length_cons]; (repeat' split)<;>omega
theorem B4J {n:Int}: ∀{l:List Int} {u:Int},A2h n (some u) l=0->u<n->(l.length:Int)≤n-1-u
 | [],u,_,hu=>by simp; omega
 | v::l,u,h,hu=>by
  simp only [A2h,Jk,exists_eq_left'] at h;split at h
  ·omega
  ·split at h
   ·omega
   ·have:=B4J h (by omega);simp only [List.length_cons]; omega
theorem B8r {n:Int} (hn:0≤n) {l:List Int} (h:A2h n none l=0):(l.length:Int)≤n:=by
 cases l with
 | nil=>simpa using hn
 | cons v l=>
  simp only [A2h,reduceCtorEq,false_and,exists_false,if_false] at h;split at h
  ·omega
  ·have:=B4J h (by omega);simp only [List.length_cons]; omega
theorem B8s (l:List Int) (v:Int) (hl:l.length<2^40):ACall Tryz.prog 92 [A0k v,.t (.rptr [.slice (A0p l)])] (A0k (A19 l v)):=by
 refine ACall.of_body Tryz.func92 rfl (by kernel_rfl) ?_;simp only [entry,Tryz.ntmps92,A0k];refine zU ?_;refine zR Qw9 (zc (B4E l v hl) Qw9) Qw9 ?_;simp [A0y,A0x,Blk.cells,ty,Tryz.results92,A0s,A0t,toT,A0d,A0b,A0c,A0a,A0k]
noncomputable def indE (g:G) (l:List Int):Int:=if B2O g l≠0 then B2O g l else if l=[] then 14 else 0
noncomputable def B7h (g:G) (l:List Int):G:=if indE g l≠0 then ⟨0,[]⟩ else ⟨l.length,A3c (B3z (A19 l) g.es)⟩
theorem B6g (g:G) (l:List Int) (hg:g.es.length<2^20) (hl:l.length<2^40):ACall Tryz.prog 45 [tG g,A0m l] (.tup [tG (B7h g l),A0k (indE g l)]):=by
 refine ACall.of_body Tryz.func45 rfl (by kernel_rfl) ?_;simp only [entry,Tryz.ntmps45,tG,A0m];refine zU ?_;refine AWp.seq_region (fun K hK=> ?_)
 repeat' (first|((first|(refine zT ?_;intro K' hK')|(refine zG ?_ ?_<;>(try refine zH ?_)<;>intro hguard<;>(try exact zX)<;>try intro K' hK'))<;>((try simp+contextual only [go_sem]);(repeat' first|(with_reducible refine hK' _ _ ?_;clear hK' K')|exact zY|with_reducible refine Qw8 ?_ ?_|(with_reducible intro hpath;try exact zP)|(refine hK' _ _ ?_;clear hK' K')|fail);try refine zS ?_))|(refine zE ?_;refine hK _ _ ?_;clear hK K)|(refine zN ?_;try refine zS ?_)|fail)
 refine AWp.freezeP 3 1 rfl rfl rfl ?_;simp only [List.set_cons_succ,List.set_cons_zero];by_cases hs0:B2O g l≠0
 ·have e:indE g l=B2O g l:=if_pos (by assumption);have e2:B7h g l=⟨0,[]⟩:=if_pos (by rw [e]; assumption);refine zR (zc @A0e Qw9) (zc (A8K g l (by omega) hl) Qw9) Qw9 ?_;simp [A0y,A0x,Blk.cells,ty,Tryz.results45,A0s,A0t,toT,A0d,A0b,A0c,A0a,A0k,tG,e,e2,A0f]
 ·have hs0:B2O g l=0:=by omega
  by_cases el:l=[]
  ·have e:indE g l=14:=by unfold indE; rw [if_neg (by omega),if_pos el]
   have e2:B7h g l=⟨0,[]⟩:=if_pos (by rw [e]; decide);have el2:l.length=0:=by simp [el]
   refine zR (zc @A0e Qw9) (zc (A8K g l (by omega) hl) Qw9) Qw9 ?_;simp [A0y,A0x,Blk.cells,ty,Tryz.results45,A0s,A0t,toT,A0d,A0b,A0c,A0a,A0k,tG,e,e2,A0f]
  ·have hc:checkG g=0:=by unfold B2O at hs0; split at hs0<;>omega
   have hn:=(A0h.1 hc).1;have hse:A2h g.n none l=0:=by unfold B2O at hs0; rwa [if_neg (by omega)] at hs0
   have hlen:=B8r (by omega) hse;have e:indE g l=0:=by unfold indE; rw [if_neg (by omega),if_neg el]
   have e2:B7h g l=⟨l.length,A3c (B3z (A19 l) g.es)⟩:=if_neg (by rw [e]; decide);have hi: ∀v,A19 l v<12:=fun v=>by have:=B30 l v; omega
   have hl0:0<l.length:=Ww.2 el;have hmv:=C1m g l.length 92 (A0p l) (A19 l) hg (fun x _=>⟨⟨B8s l _ hl,hi _⟩,⟨B8s l _ hl,hi _⟩⟩);refine zR (zc @A0e Qw9) (zc (A8K g l (by omega) hl) (zc hmv Qw9)) Qw9 ?_;simp [A0y,A0x,Blk.cells,ty,Tryz.results45,A0s,A0t,toT,A0d,A0b,A0c,A0a,A0k,tG,e,e2,A0f]
instance ltE.dec:DecidableRel ltE:=fun x y=>by unfold ltE; infer_instance
def part:G:=⟨3,[⟨0,1,2⟩,⟨0,2,1⟩]⟩
end Go.Proofs.YtdbdfkohpjefjaaGreat
