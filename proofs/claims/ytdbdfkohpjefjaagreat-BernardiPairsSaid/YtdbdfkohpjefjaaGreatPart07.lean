/- A part of the proof. -/
import Derived.Test.YtdbdfkohpjefjaaGreatPart05
import Derived.Test.YtdbdfkohpjefjaaGreatPart04
import Derived.Test.YtdbdfkohpjefjaaGreatLayerD
set_option linter.all false
set_option maxHeartbeats 4000000
set_option maxRecDepth 100000
namespace Go.Proofs.YtdbdfkohpjefjaaGreat
open Go.Sp
instance:DecidableEq E:=fun x y=>decidable_of_iff (x.a=y.a∧x.b=y.b∧x.m=y.m) (by cases x; cases y; simp)
def fT (F:List Nat):List Tree:=F.map fun (n:Nat)=>Tree.int .i64 (n:Int)
def fC (F:List Nat):List ACell:=F.map fun (n:Nat)=>ACell.int .i64 (n:Int)
structure FOk (F:List Nat):Prop where
 len:F.length=12
 le: ∀i (h:i<F.length),F[i]≤i
variable {F:List Nat}
def B4k {i:Nat} (h:i<F.length):(fT F).drop i= .int .i64 F[i]::(fT F).drop (i+1):=by
 have h':i<(fT F).length:=by simp [fT,h]
 rw [Zz h'];simp [fT]
def rootF (F:List Nat):Nat->Nat->Nat
 | 0,v=>v
 | n+1,v=>if F.getD v v=v then v else rootF F n (F.getD v v)
def B6M (h:FOk F): ∀{n m v:Nat},v<12->v≤n->v≤m->rootF F n v=rootF F m v:=by
 intro n
 induction n with
 | zero=>
  intro m v _ h1 h2;have:v=0:=by omega
  subst this;cases m with
  | zero=>rfl
  | succ m=>
   have h3:=h.le 0 (by rw [h.len]; omega);simp only [rootF];rw [Qz,Qq (by rw [h.len]; omega),Option.getD_some,if_pos (by omega)]
 | succ n ih=>
  intro m v hv h1 h2;have hl:v<F.length:=by rw [h.len]; exact hv
  have h3:=h.le v hl;have e:F.getD v v=F[v]:=by rw [Qz,Qq hl,Option.getD_some]
  cases m with
  | zero=>
   have:v=0:=by omega
   subst this;simp only [rootF,e];rw [if_pos (by omega)]
  | succ m=>
   simp only [rootF,e];by_cases hx:F[v]=v
   ·rw [if_pos hx,if_pos hx]
   ·rw [if_neg hx,if_neg hx];exact ih (by omega) (by omega) (by omega)
def A2U (h:FOk F) {v:Nat} (hv:v<F.length):rootF F 12 v=if F[v]=v then v else rootF F 12 F[v]:=by
 have hv':v<12:=by rw [<-h.len]; exact hv
 have e:F.getD v v=F[v]:=by rw [Qz,Qq hv,Option.getD_some]
 have h3:=h.le v hv;have:rootF F 12 v=if F[v]=v then v else rootF F 11 F[v]:=by
  show (if F.getD v v=v then v else rootF F 11 (F.getD v v))=_;rw [e]
 rw [this];by_cases hx:F[v]=v
 ·rw [if_pos hx,if_pos hx]
 ·rw [if_neg hx,if_neg hx]; exact B6M h (by omega) (by omega) (by omega)
def A22 (h:FOk F): ∀{n v:Nat},v<12->rootF F n v≤v:=by
 intro n
 induction n with
 | zero=>intro v _; exact QQ _
 | succ n ih=>
  intro v hv;have hl:v<F.length:=by rw [h.len]; exact hv
  have h3:=h.le v hl;have e:F.getD v v=F[v]:=by rw [Qz,Qq hl,Option.getD_some]
  simp only [rootF,e];split
  ·exact QQ _
  ·exact Yj (ih (by omega)) h3
def C4s (F:List Nat) (h:FOk F) (v:Nat) (hv:v<12):ACall Tryz.prog 95 [.t (.rptr (fT F)),A0n v] (A0n (rootF F 12 v)):=by
 have hF:=h.len;refine ACall.of_body Tryz.func95 rfl (by kernel_rfl) ?_;simp only [entry,Tryz.ntmps95,A0n];refine zU ?_;refine zR Qv6 Qv6 Qv6 ?_;refine AWp.loopS (α:=Nat) 18 (fun u=>[(0,.c (.rptr (fT F))),(1,.c (.int .i64 (u:Int)))]) (fun u=>[]) (fun u=>u<12∧rootF F 12 v=rootF F 12 u) (fun u=>u) (v) (hk:=Weak.headL 0 18 [0,1] zW) (h0:=?_) (round:=fun u hI=>?_)
 ·exact ⟨hv,rfl⟩
 ·obtain ⟨hu,hx⟩:=hI;have hul:u<F.length:=by omega
  have e1:=B4k hul;have e2:=A2U h hul;have e3:=h.le u hul;refine zM Qv6 (zc @e1 Qv6) Qv6 Qv6 Qv6 (zc (ed fun hp hpc=>?_) (ed fun hp hpc=>?_))
  ·rw [if_neg (by omega)] at e2;refine ⟨F[u],Weak.headN 0 18 [0,1] zW,?_,?_⟩
   ·exact ⟨by omega,by rw [hx,e2]⟩
   ·omega
  ·rw [if_pos (by omega)] at e2;have e:rootF F 12 v=u:=by rw [hx,e2]
   simp [A00,A0z,Blk.cells,ty,Tryz.results95,A0v,A0w,toT,A0d,A0b,A0c,A0a,A0n,e]
def A1I (s:List Nat×Int) (p:Int×Int):List Nat×Int:=
 let a:=rootF s.1 12 p.1.toNat;let b:=rootF s.1 12 p.2.toNat
 (s.1.set (max a b) (min a b),if a=b then s.2+1 else s.2)
def genS (l:List (Int×Int)):List Nat×Int:=l.foldl A1I (List.range 12,0)
def C1l (l:List (Int×Int)):Int:=(genS l).2
def A9f (l:List (Int×Int)) (p:Int×Int):genS (l++[p])=A1I (genS l) p:=by simp [genS]
def B04 {s:List Nat×Int} {p:Int×Int} (h:FOk s.1) (h1:0≤p.1∧p.1<12) (h2:0≤p.2∧p.2<12):FOk (A1I s p).1:=by
 refine ⟨by simp [A1I,h.len],fun i hi=> ?_⟩;simp only [A1I] at hi ⊢;rw [Qz2];split
 ·omega
 ·exact h.le i (by simpa using hi)
def B8W {l:List (Int×Int)} (h: ∀p,p∈l->(0≤p.1∧p.1<12)∧(0≤p.2∧p.2<12)):FOk (genS l).1∧0≤(genS l).2∧(genS l).2≤l.length:=by
 have key: ∀(l:List (Int×Int)) (s:List Nat×Int),FOk s.1->(∀p,p∈l->(0≤p.1∧p.1<12)∧(0≤p.2∧p.2<12))->FOk (l.foldl A1I s).1∧s.2≤(l.foldl A1I s).2∧(l.foldl A1I s).2≤s.2+l.length:=by
  intro l
  induction l with
  | nil=>intro s hs _; simp; exact hs
  | cons p l ih=>
   intro s hs hp;have hp1:=hp p (by simp);obtain ⟨q1,q2,q3⟩:=ih (A1I s p) (B04 hs hp1.1 hp1.2) fun q hq=>hp q (by simp [hq]);refine ⟨q1,?_,?_⟩
   ·refine Qw8 ?_ q2; simp only [A1I]; split<;>omega
   ·refine Qw8 q3 ?_; simp only [A1I,List.length_cons]; split<;>omega
 have:=key l (List.range 12,0) ⟨by simp,fun i hi=>by simp⟩ h;unfold genS;simpa using this
def A9g (F:List Nat) (i n:Nat):setMany (fC F) i [.int .i64 (n:Int)]=fC (F.set i n):=by
 simp only [setMany,fC];rw [Qj8]
def A5W (F:List Nat) (i n:Nat):(fC F).set i (.int .i64 (n:Int))=fC (F.set i n):=by
 simp only [fC];rw [Qj8]
def C2a (l:List (Int×Int)):(genS l).1.length=12:=by
 have key: ∀(l:List (Int×Int)) (s:List Nat×Int),s.1.length=12->(l.foldl A1I s).1.length=12:=by
  intro l
  induction l with
  | nil=>intro s hs; exact hs
  | cons p l ih=>intro s hs; exact ih _ (by simp [A1I,hs])
 exact key l _ (by simp)
def C4t (l:List (Int×Int)): ¬fC (genS l).1=[]:=fun h=>by
 have:=congrArg List.length h;simp [fC,C2a] at this
def A1d (F:List Nat):(fC F).length=F.length:=by simp [fC]
variable {es:List E}
def A3T {p:Int×Int} (h:p∈endsL es): ∃e,e∈es∧p=(e.a,e.b):=by
 unfold endsL at h;obtain ⟨e,he,hp⟩:=Jq.1 h;exact ⟨e,he,(YY.1 hp).2⟩
def ends_range {g:G} (hc:checkG g=0) {p:Int×Int} (h:p∈endsL g.es):(0≤p.1∧p.1<g.n)∧(0≤p.2∧p.2<g.n):=by
 obtain ⟨e,he,rfl⟩:=A3T h;have:=(A0j.1 hc).2.1 e he;unfold okE at this;simp only; omega
def B1z (F:List Nat):(fC F).mapM A0a=some (fT F):=by
 induction F with
 | nil=>rfl
 | cons x xs ih=>
  simp only [fC,fT,XQ,JZ,A0a] at ih ⊢;rw [ih]; rfl
def B2M (F:List Nat) (h:FOk F) (v:Nat) (hv:v<12) {H:List Blk} {id:Nat} (hb:H[id]? =some (.box (fC F))):
  ACallH Tryz.prog 95 H [.c (.ptr id 0),.c (.int .i64 (v:Int))] H (.c (.int .i64 (rootF F 12 v:Nat))):=
 ACall.hb (C4s F h v hv) (by simp [toT,A0d,A0b,hb,Blk.cells,B1z,A0a,A0n]) rfl
def A7r (i:Nat):List Nat:=List.range i++List.replicate (12-i) 0
def A9h {i:Nat} (h:i<12):(A7r i).set i i=A7r (i+1):=by
 unfold A7r;rw [show 12-i=(12-(i+1))+1 by omega,List.replicate_succ,WX];rw [Vq _ _ (by simp)];simp
def A9i {i:Nat} (h:i≤12):(A7r i).length=12:=by unfold A7r; simp; omega
def B10:A7r 12=List.range 12:=by unfold A7r; simp
def C2b (g:G) (hl:g.es.length<2^30):ACall Tryz.prog 46 [tG g] (.tup [A0n (if checkG g≠0 then 0 else C1l (endsL g.es)),A0n (checkG g)]):=by
 refine ACall.of_body Tryz.func46 rfl (by kernel_rfl) ?_;simp only [entry,Tryz.ntmps46,tG];refine zU ?_;refine zM Qv6 Qv6 (zc (A8h g (by omega)) Qv6) Qv6 Qv6 (zc (ed fun hp hpc=>?_) (ed fun hp hpc=>?_))
 ·rw [if_pos (by assumption)];simp [A00,A0z,Blk.cells,ty,Tryz.results46,A0v,A0w,toT,A0d,A0b,A0c,A0a,A0n]
 ·rw [if_neg (by omega)];have hc:checkG g=0:=by omega
  have hs:=B6G hl hc;refine AWp.loopS (α:=Nat) 47 (fun i=>[(1,.c (.ptr 0 0)),(5,.c (.ptr 1 0)),(17,.c (.int .i64 (i:Int)))]) (fun i=>[.box [.int .i64 g.n,.slice (A0f g.es) .none],.box (fC (A7r i))]) (fun i=>i≤12) (fun i=>12-i) (0) (hk:=Weak.headL 2 47 [1,5,17] zW) (h0:=?_) (round:=fun i hI=>?_)
  ·exact Xw _
  ·by_cases hlt:i<12
   ·have hset:=A9h hlt;have hlen:=A9i hI;generalize A7r i=F at*;refine zR (zc @A1d (zc @hlen (zc @A9g (zc @A5W (zc @hset Qv6))))) Qv6 Qv6 ?_;refine ⟨i+1,Weak.headN 2 47 [1,5,17] zW,?_,?_⟩
    ·exact hlt
    ·omega
   ·have ei:i=12:=by omega
    subst ei;refine zR Qv6 (zc (B0t g) Qv6) Qv6 ?_;refine AWp.weak (Weak.head (m:=3) (by omega) ((fun t f=>[f,t,f,f,f,t,f,t,f,f,f,f,f,f,f,f,f,f,f,f,f,f,f,f,f,t,f,f,f,f,f,f,f,f,f,f,f,f,f,f,f,f,f,f,f,f,f]) true false) (by first | rfl | simp [mask]) (by first | rfl | simp) (by (repeat' (first | exact A0m _ | refine A0k ?_ ?_ | refine A0h ?_ ?_ | exact A0i _ | exact Qv4 | (show _<_; omega) | (intro c hc; cases hc; done) | (intro c hc; simp only [Qw,Qv,or_false] at hc; subst hc; first | exact Qv4 | (show _<_; omega)) | (intro c hc; simp only [Qw,Qv,or_false] at hc; rcases hc with rfl | rfl<;>first | exact Qv4 | (show _<_; omega))))) (by (repeat' (first | exact A0m _ | exact A0s _ | exact A0i _ | refine Qv5 ?_ ?_ | refine A0k ?_ ?_ | refine A0l ?_ ?_ | refine A0h ?_ ?_ | exact Qv4 | (show _<_; omega) | exact A0r (fun _=>Qv4) | (intro c hc; cases hc; done) | (intro c hc; simp only [Qw,Qv,or_false] at hc; subst hc; first | exact Qv4 | (show _<_; omega)) | (intro c hc; simp only [Qw,Qv,or_false] at hc; rcases hc with rfl | rfl<;>first | exact Qv4 | (show _<_; omega)))))) (AWp.rangeFunc (fun k H=>H=[.box [.int .i64 g.n,.slice (A0f g.es) .none],.box (fC (genS ((endsL g.es).take k)).1),.box [.int .i64 (genS ((endsL g.es).take k)).2]]∧(True)) (fun _ _=>False) 3 rfl (A8X g hs.s hs.es hs.m) (B2C rfl) (by omega) (by (repeat' (first | exact A0m _ | refine A0k ?_ ?_ | refine A0h ?_ ?_ | exact A0i _ | exact Qv4 | (show _<_; omega) | (intro c hc; cases hc; done) | (intro c hc; simp only [Qw,Qv,or_false] at hc; subst hc; first | exact Qv4 | (show _<_; omega)) | (intro c hc; simp only [Qw,Qv,or_false] at hc; rcases hc with rfl | rfl<;>first | exact Qv4 | (show _<_; omega))))) (by rintro _ _ ⟨rfl,-⟩; simp [C4t]) (fun _ _ h=>h.elim) ?_ (fun l k ts H hts hI=> ?_) (fun H hI=> ?_) (fun e H h=>h.elim))
    ·exact ⟨by rw [B10]; simp [genS],trivial⟩
    ·obtain ⟨rfl,-⟩:=hI;obtain ⟨p,hp,rfl⟩:=A7m hts;have hrng:=ends_range hc (Qy hp);have hn12:=(A0j.1 hc).1;have hok:=B8W (l:=(endsL g.es).take k) fun q hq=>by
      have:=ends_range hc (Vy hq); omega
     have hk:k<(endsL g.es).length:=(Qx.1 hp).1;have hkl:((endsL g.es).take k).length≤k:=by rw [YV]; omega
     have hsn:=take_snoc hp;have hnx:=A9f ((endsL g.es).take k) p;rw [<-hsn] at hnx;have hs3:=hs.s;obtain ⟨p1,p2⟩:=p;obtain ⟨a,rfl⟩:=XV hrng.1.1;obtain ⟨b,rfl⟩:=XV hrng.2.1;have ha:a<12:=by omega
     have hb:b<12:=by omega
     generalize genS ((endsL g.es).take k)=s at*;obtain ⟨F,c⟩:=s;have hF:=hok.1;have la:=A22 hF (n:=12) ha;have lb:=A22 hF (n:=12) hb;simp only [A1I,Int.toNat_natCast] at hnx;simp only [mask,A43,List.zip_cons_cons,Jk,List.zip_nil_left,List.foldl_cons,List.foldl_nil,List.set_cons_succ,List.set_cons_zero,ofT,A3u,A02,XQ,ZX,ofT,A3u,toT,A0w,A0a,A0n,A0x,A3v,tG,A0E,A0q];generalize hx:rootF F 12 a=x at*;generalize hy:rootF F 12 b=y at*;have hmax:max (x:Int) (y:Int)=((max x y:Nat):Int):=by omega
     have hmin:min (x:Int) (y:Int)=((min x y:Nat):Int):=by omega
     have rx:=B2M F hF a ha (H:=[.box [.int .i64 g.n,.slice (A0f g.es) .none],.box (fC F),.box [.int .i64 c],.box [.int .i64 (a:Int),.int .i64 (b:Int)]]) (id:=1) rfl;have ry:=B2M F hF b hb (H:=[.box [.int .i64 g.n,.slice (A0f g.es) .none],.box (fC F),.box [.int .i64 c],.box [.int .i64 (a:Int),.int .i64 (b:Int)]]) (id:=1) rfl;rw [hx] at rx;rw [hy] at ry;refine zM Qv6 (zc @A1d (zc @A9g (zc @A5W (zc @hmax (zc @hmin (zc @hF.len Qv6)))))) Qv6 (zc rx (zc ry Qv6)) Qv6 (zc (ed fun hp hpc=>?_) (ed fun hp hpc=>?_))
     all_goals
      refine ⟨⟨_,_⟩,Weak.head2 (m:=3) (by decide) ((fun t f=>[f,f,f,f,f,f,f,f,f,f,f,f,f,f,f,f,f,f,f,f,f,f,f,f,f,f,f,f,f,f,f,f,f,f,f,f,f,f,f,f,f,f,f,f,f,f,f]) true false) rfl rfl zW,?_,?_⟩
      ·have hxy:(x=y)∨ ¬(x=y):=Classical.em _;have hg:genS (List.take (k+1) (endsL g.es))=(F.set (max x y) (min x y),if x=y then c+1 else c):=hnx;rw [hg];rcases hxy with hxy | hxy
       ·first
         | (simp [hxy]; done)
         | (exfalso; omega)
       ·first
         | (simp [hxy]; done)
         | (exfalso; omega)
      ·trivial
    ·obtain ⟨rfl,-⟩:=hI;simp only [mask];have e0:checkG g=0:=hc;refine zR Qv6 Qv6 Qv6 ?_;simp [A00,A0z,Blk.cells,ty,Tryz.results46,A0v,A0w,toT,A0d,A0b,A0c,A0a,A0n,A7l,e0,C1l]
def b2i (p:Prop) [Decidable p]:Int:=if p then 1 else 0
def A6W (v:Int):List (Int×Int)->Int
 | []=>0
 | p::l=>b2i (p.1=v)+b2i (p.2=v)+A6W v l
def A9j (v:Int) (a b:List (Int×Int)):A6W v (a++b)=A6W v a+A6W v b:=by
 induction a with
 | nil=>simp [A6W]
 | cons x xs ih=>simp only [List.cons_append,A6W,ih]; omega
def B8X (v:Int) (l:List (Int×Int)) (p:Int×Int):A6W v (l++[p])=A6W v l+b2i (p.1=v)+b2i (p.2=v):=by
 rw [A9j]; simp only [A6W]; omega
def A47 (n:Int):Option Int->List Int->Int
 | _,[]=>0
 | p,v::l=>if ¬(0≤v∧v<n) then 2 else if (∃u,p=some u∧v≤u) then 9 else A47 n (some v) l
def B38 (g:G) (l:List Int):Int:=if checkG g≠0 then checkG g else A47 g.n none l
def A9k (g:G) (l:List Int) (hg:g.es.length<2^40) (hl:l.length<2^40):ACall Tryz.prog 90 [tG g,A0q l] (A0n (B38 g l)):=by
 refine ACall.of_body Tryz.func90 rfl (by kernel_rfl) ?_;simp only [entry,Tryz.ntmps90,tG,A0q];refine zU ?_;refine zM Qv6 (zc @A0e Qv6) (zc (A8h g hg) Qv6) Qv6 Qv6 (zc (ed fun hp hpc=>?_) (ed fun hp hpc=>?_))
 ·have e:B38 g l=checkG g:=by unfold B38; rw [if_pos (by assumption)]
  simp [A00,A0z,Blk.cells,ty,Tryz.results90,A0v,A0w,toT,A0d,A0b,A0c,A0a,A0n,e]
 ·have hc:checkG g=0:=by omega
  have e:B38 g l=A47 g.n none l:=by unfold B38; rw [if_neg (by omega)]
  rw [e];refine AWp.loopS (α:=Nat) 37 (fun k=>[(1,.c (.slice (A0p l) .none)),(2,.c (.ptr 0 0)),(13,.c (.slice (A0p l) .none)),(14,.c (.int .i64 l.length)),(15,.c (.int .i64 (k:Int)))]) (fun k=>[.box [.int .i64 g.n,.slice (A0f g.es) .none]]) (fun k=>k≤l.length∧A47 g.n none l=A47 g.n (match k with | 0=>none | j+1=>l[j]?) (l.drop k)) (fun k=>l.length-k) (0) (hk:=Weak.headL 1 37 [1,2,13,14,15] zW) (h0:=?_) (round:=fun k hI=>?_)
  ·exact ⟨Xw _,rfl⟩
  ·obtain ⟨hk,hx⟩:=hI;by_cases hlt:k<l.length
   ·have e0:=Qq hlt;have e1:=A0y e0;rw [Zz hlt,A47] at hx;generalize hv:l[k]=v at*;cases k with
    | zero=>
     simp only [reduceCtorEq,false_and,exists_false,if_false] at hx;refine zM Qv6 (zc @e1 (zc @ZJ Qv6)) (zc A8W Qv6) Qv6 Qv6 (zc (ed fun hp hpc=>?_) (ed fun hp hpc=>?_))
     ·rw [if_pos (by assumption)] at hx;simp [A00,A0z,Blk.cells,ty,Tryz.results90,A0v,A0w,toT,A0d,A0b,A0c,A0a,A0n,hx]
     ·rw [if_neg (by omega)] at hx;refine ⟨0+1,Weak.headN 1 37 [1,2,13,14,15] zW,?_,?_⟩
      ·exact ⟨hlt,hx.trans (by simp only [e0])⟩
      ·omega
    | succ j=>
     have e2:=Qq (show j<l.length by omega);have e3:=A0y e2;have hj1:((j+1:Nat):Int)-1=(j:Int):=by omega
     simp only [e2,Vw,exists_eq_left'] at hx;generalize hu:l[j]=u at*;refine zM Qv6 (zc @e1 (zc @e3 (zc @hj1 (zc @ZJ Qv6)))) (zc A8W Qv6) Qv6 Qv6 (zc (ed fun hp hpc=>?_) (zc (ed fun hp hpc=>?_) (ed fun hp hpc=>?_)))
     ·rw [if_pos (by assumption)] at hx;simp [A00,A0z,Blk.cells,ty,Tryz.results90,A0v,A0w,toT,A0d,A0b,A0c,A0a,A0n,hx]
     ·rw [if_neg (by omega),if_pos (by assumption)] at hx;simp [A00,A0z,Blk.cells,ty,Tryz.results90,A0v,A0w,toT,A0d,A0b,A0c,A0a,A0n,hx]
     ·rw [if_neg (by omega),if_neg (by omega)] at hx;refine ⟨j+1+1,Weak.headN 1 37 [1,2,13,14,15] zW,?_,?_⟩
      ·exact ⟨hlt,hx.trans (by simp only [e0])⟩
      ·omega
   ·have e:k=l.length:=by omega
    have e:A47 g.n none l=0:=by rw [hx,e,Qq2]; rfl
    refine zR (zc @ZJ Qv6) Qv6 Qv6 ?_;simp [A00,A0z,Blk.cells,ty,Tryz.results90,A0v,A0w,toT,A0d,A0b,A0c,A0a,A0n,e]
def C2c (set:List Int) (p:Int×Int):Bool:= !decide (decide (p.1∈set)=decide (p.2∈set))
def C2d (set:List Int) (l:List (Int×Int)):List Int:=l.zipIdx.filterMap fun q=>if C2c set q.1 then some (q.2:Int) else none
def A3o (F:Int->Int) (l:List E) (x:E):List E:=if 0≤F x.a∧0≤F x.b then A1B l (min (F x.a) (F x.b)) (max (F x.a) (F x.b)) x.m else l
def B4l (F:Int->Int) (es:List E):List E:=es.foldl (A3o F) []
def B8Y {F:Int->Int} {es:List E} {i:Nat} (h:i<es.length):B4l F (es.take (i+1))=A3o F (B4l F (es.take i)) es[i]:=by
 rw [XZ h]; simp only [B4l,Qw1,List.foldl_cons,List.foldl_nil]
structure MovOk (k:Nat) (es:List E):Prop where
 d:distinctE es
 len:es.length≤k
 r: ∀e,e∈es->(0≤e.a∧e.a<12)∧(0≤e.b∧e.b<12)
def C2e {F:Int->Int} {k:Nat} {es:List E} (h:MovOk k es) {x:E} (h1:F x.a<12) (h2:F x.b<12):MovOk (k+1) (A3o F es x):=by
 unfold A3o;split
 ·refine ⟨A4X h.d,Yj (B0y ..) (by have:=h.len; omega),fun e he=> ?_⟩;rcases A5y he with he | rfl
  ·exact h.r e he
  ·simp only; omega
 ·exact ⟨h.d,by have:=h.len; omega,h.r⟩
def C2f {k:Nat} (h:MovOk k es): ∀e,e∈mE es->(KShape.ints 2).ok e.1=true:=by
 intro e he;obtain ⟨x,hx,rfl⟩:=QJ.1 he;have:=h.r x hx;exact key_ok this.1 this.2
def C6j:mE []=[]:=rfl
def C2g (g:G) (n:Int) (f:Nat) (rows:List (List Tree)) (F:Int->Int) (hl:g.es.length<2^20)
  (hF: ∀x,x∈g.es->(ACall Tryz.prog f [A0n x.a,.t (.rptr [.slice rows])] (A0n (F x.a))∧F x.a<12)∧(ACall Tryz.prog f [A0n x.b,.t (.rptr [.slice rows])] (A0n (F x.b))∧F x.b<12)):
  ACall Tryz.prog 91 [tG g,A0n n,.t (.fn f [.rptr [.slice rows]])] (tG ⟨n,A3k (B4l F g.es)⟩):=by
 refine ACall.of_body Tryz.func91 rfl (by kernel_rfl) ?_;simp only [entry,Tryz.ntmps91,tG,A0n];refine zU ?_;refine zR (zc @A07 Qv6) Qv6 Qv6 ?_;rw [<-C6j];refine AWp.loopS (α:=Nat) 44 (fun i=>[(1,.c (.int .i64 n)),(2,.c (.fn f [.tree (.rptr [.slice rows])])),(3,.c (.ptr 0 0)),(6,.c (.ptr 1 0)),(7,.c (.map 2)),(14,.c (.slice (A0f g.es) .none)),(15,.c (.int .i64 g.es.length)),(16,.c (.int .i64 (i:Int)))]) (fun i=>[.box [.int .i64 g.n,.slice (A0f g.es) .none],.box [.int .i64 0,.nils],.map (mE (B4l F (g.es.take i)))]) (fun i=>i≤g.es.length∧MovOk i (B4l F (g.es.take i))) (fun i=>g.es.length-i) (0) (hk:=Weak.headL 3 44 [1,2,3,6,7,14,15,16] zW) (h0:=?_) (round:=fun i hI=>?_)
 ·exact ⟨Xw _,List.Pairwise.nil,by simp [B4l],by simp [B4l]⟩
 ·obtain ⟨hi,hbag⟩:=hI;by_cases hlt:i<g.es.length
  ·have e0:=Qq hlt;have e1:=A2g e0;have hnx:=B8Y (F:=F) hlt;have hc:=hF _ (Xk hlt);have hst:=C2e (F:=F) hbag hc.1.2 hc.2.2;rw [<-hnx] at hst;have hks:=C2f hbag;generalize B4l F (g.es.take i)=es at*;generalize g.es[i]=x at*;have hk:0≤F x.a->0≤F x.b->(KShape.ints 2).ok (.ints [min (F x.a) (F x.b),max (F x.a) (F x.b)])=true:=fun h1 h2=>key_ok (by omega) (by omega)
   repeat' (first|((first|(refine zT ?_;intro K' hK')|(refine zG ?_ ?_<;>(try refine zH ?_)<;>intro hguard<;>(try exact zX)<;>try intro K' hK'))<;>((try simp+contextual only [go_sem,e1,Int.toNat_natCast,ZJ,A2N,B1w]);(repeat' first|(with_reducible refine hK' _ _ ?_;clear hK' K')|((with_reducible first|refine zK hc.1.1 ?_|refine zK hc.2.1 ?_|refine zK (B87 _ _) ?_);try simp+contextual only [go_sem,e1,Int.toNat_natCast,ZJ,A2N,B1w])|(refine ⟨_,C6c,hk (by assumption) (by assumption),hks,?_⟩ ; simp+contextual only [go_sem,e1,Int.toNat_natCast,ZJ,A2N,B1w])|exact zY|with_reducible refine Qv5 ?_ ?_|(with_reducible intro hpath;try exact zP)|(refine hK' _ _ ?_;clear hK' K')|fail);try refine zS ?_))|(refine zE ?_;refine hK _ _ ?_;clear hK K)|(refine zN ?_;try refine zS ?_)|refine zA ?_|(refine zB ?_;intro K hK)|(refine zC ?_ ?_<;>(try refine zH ?_)<;>intro hcond<;>try exact zX)|fail)
   ·have e:A3o F es x=A1B es (min (F x.a) (F x.b)) (max (F x.a) (F x.b)) x.m:=if_pos ⟨by assumption,by assumption⟩;rw [e] at hnx;refine ⟨i+1,Weak.headF 3 44 [1,2,3,6,7,14,15,16] (zc @hnx (zc @B1w Qv6)) zW,?_,?_⟩
    ·exact ⟨hlt,hst⟩
    ·omega
   all_goals
    have e:A3o F es x=es:=if_neg (by omega);rw [e] at hnx;refine ⟨i+1,Weak.headF 3 44 [1,2,3,6,7,14,15,16] (zc @hnx Qv6) zW,?_,?_⟩
    ·exact ⟨hlt,hst⟩
    ·omega
  ·have ei:i=g.es.length:=by omega
   subst ei;rw [Zy] at hbag ⊢;generalize B4l F g.es=L at*;have hLl:=hbag.len
   repeat' (first|((first|(refine zT ?_;intro K' hK')|(refine zG ?_ ?_<;>(try refine zH ?_)<;>intro hguard<;>(try exact zX)<;>try intro K' hK'))<;>((try simp+contextual only [go_sem,ZJ]);(repeat' first|(with_reducible refine hK' _ _ ?_;clear hK' K')|((with_reducible first|refine ⟨_,_,ACallX.h1 (B5t n L hbag.d (by omega)) (by with_unfolding_all rfl) (by with_unfolding_all rfl),?_⟩|refine ⟨_,ACallX.h1 (B5t n L hbag.d (by omega)) (by with_unfolding_all rfl) (by with_unfolding_all rfl),?_⟩);try simp+contextual only [go_sem,ZJ])|exact zY|with_reducible refine Qv5 ?_ ?_|(with_reducible intro hpath;try exact zP)|(refine hK' _ _ ?_;clear hK' K')|fail);try refine zS ?_))|(refine zE ?_;refine hK _ _ ?_;clear hK K)|(refine zN ?_;try refine zS ?_)|refine zA ?_|(refine zB ?_;intro K hK)|(refine zC ?_ ?_<;>(try refine zH ?_)<;>intro hcond<;>try exact zX)|fail)
   simp [A00,A0z,Blk.cells,ty,Tryz.results91,A0v,A0w,toT,A0d,A0b,A0c,A0a,A0n,tG,A0f]
def B4m (l:List Int) (v:Int):A1C l v<l.length:=by
 induction l with
 | nil=>simp [A1C]
 | cons x xs ih=>simp only [A1C,List.length_cons]; (repeat' split)<;>omega
def B50 {n:Int}: ∀{l:List Int} {u:Int},A47 n (some u) l=0->u<n->(l.length:Int)≤n-1-u
 | [],u,_,hu=>by simp; omega
 | v::l,u,h,hu=>by
  simp only [A47,Vw,exists_eq_left'] at h;split at h
  ·omega
  ·split at h
   ·omega
   ·have:=B50 h (by omega);simp only [List.length_cons]; omega
def B8Z {n:Int} (hn:0≤n) {l:List Int} (h:A47 n none l=0):(l.length:Int)≤n:=by
 cases l with
 | nil=>simpa using hn
 | cons v l=>
  simp only [A47,reduceCtorEq,false_and,exists_false,if_false] at h;split at h
  ·omega
  ·have:=B50 h (by omega);simp only [List.length_cons]; omega
def B9a (l:List Int) (v:Int) (hl:l.length<2^40):ACall Tryz.prog 92 [A0n v,.t (.rptr [.slice (A0p l)])] (A0n (A1C l v)):=by
 refine ACall.of_body Tryz.func92 rfl (by kernel_rfl) ?_;simp only [entry,Tryz.ntmps92,A0n];refine zU ?_;refine zR Qv6 (zc (B5w l v hl) Qv6) Qv6 ?_;simp [A00,A0z,Blk.cells,ty,Tryz.results92,A0v,A0w,toT,A0d,A0b,A0c,A0a,A0n]
noncomputable def indE (g:G) (l:List Int):Int:=if B38 g l≠0 then B38 g l else if l=[] then 14 else 0
noncomputable def B7O (g:G) (l:List Int):G:=if indE g l≠0 then ⟨0,[]⟩ else ⟨l.length,A3k (B4l (A1C l) g.es)⟩
def B6N (g:G) (l:List Int) (hg:g.es.length<2^20) (hl:l.length<2^40):ACall Tryz.prog 45 [tG g,A0q l] (.tup [tG (B7O g l),A0n (indE g l)]):=by
 refine ACall.of_body Tryz.func45 rfl (by kernel_rfl) ?_;simp only [entry,Tryz.ntmps45,tG,A0q];refine zU ?_;refine AWp.seq_region (fun K hK=> ?_)
 repeat' (first|((first|(refine zT ?_;intro K' hK')|(refine zG ?_ ?_<;>(try refine zH ?_)<;>intro hguard<;>(try exact zX)<;>try intro K' hK'))<;>((try simp+contextual only [go_sem]);(repeat' first|(with_reducible refine hK' _ _ ?_;clear hK' K')|exact zY|with_reducible refine Qv5 ?_ ?_|(with_reducible intro hpath;try exact zP)|(refine hK' _ _ ?_;clear hK' K')|fail);try refine zS ?_))|(refine zE ?_;refine hK _ _ ?_;clear hK K)|(refine zN ?_;try refine zS ?_)|fail)
 refine AWp.freezeP 3 1 rfl rfl rfl ?_;simp only [List.set_cons_succ,List.set_cons_zero];by_cases hs0:B38 g l≠0
 ·have e:indE g l=B38 g l:=if_pos (by assumption);have e2:B7O g l=⟨0,[]⟩:=if_pos (by rw [e]; assumption);refine zM Qv6 (zc @A0e Qv6) (zc (A9k g l (by omega) hl) Qv6) Qv6 Qv6 (ed fun hp hpc=>?_);simp [A00,A0z,Blk.cells,ty,Tryz.results45,A0v,A0w,toT,A0d,A0b,A0c,A0a,A0n,tG,e,e2,A0f]
 ·have hs0:B38 g l=0:=by omega
  by_cases el:l=[]
  ·have e:indE g l=14:=by unfold indE; rw [if_neg (by omega),if_pos el]
   have e2:B7O g l=⟨0,[]⟩:=if_pos (by rw [e]; decide);have el2:l.length=0:=by simp [el]
   refine zM Qv6 (zc @A0e Qv6) (zc (A9k g l (by omega) hl) Qv6) Qv6 Qv6 (ed fun hp hpc=>?_);simp [A00,A0z,Blk.cells,ty,Tryz.results45,A0v,A0w,toT,A0d,A0b,A0c,A0a,A0n,tG,e,e2,A0f]
  ·have hc:checkG g=0:=by unfold B38 at hs0; split at hs0<;>omega
   have hn:=(A0j.1 hc).1;have hse:A47 g.n none l=0:=by unfold B38 at hs0; rwa [if_neg (by omega)] at hs0
   have hlen:=B8Z (by omega) hse;have e:indE g l=0:=by unfold indE; rw [if_neg (by omega),if_neg el]
   have e2:B7O g l=⟨l.length,A3k (B4l (A1C l) g.es)⟩:=if_neg (by rw [e]; decide);have hi: ∀v,A1C l v<12:=fun v=>by have:=B4m l v; omega
   have hl0:0<l.length:=Ww.2 el;have hmv:=C2g g l.length 92 (A0p l) (A1C l) hg (fun x _=>⟨⟨B9a l _ hl,hi _⟩,⟨B9a l _ hl,hi _⟩⟩);refine zM Qv6 (zc @A0e Qv6) (zc (A9k g l (by omega) hl) (zc hmv Qv6)) Qv6 Qv6 (ed fun hp hpc=>?_);simp [A00,A0z,Blk.cells,ty,Tryz.results45,A0v,A0w,toT,A0d,A0b,A0c,A0a,A0n,tG,e,e2,A0f]
instance ltE.dec:DecidableRel ltE:=fun x y=>by unfold ltE; infer_instance
def part:G:=⟨3,[⟨0,1,2⟩,⟨0,2,1⟩]⟩
structure RightG (g:G) (n:Nat):Prop where
 c:checkG g=0
 nn:g.n=n
 n1:1≤n
 n12:n≤12
 l:g.es.length≤40
 s:(endsL g.es).length≤400
def A5X (g:G) (a b:Int) (hl:g.es.length<2^40):ACall Tryz.prog 176 [tG g,A0n a,A0n b] (A0n (A1H g.es (min a b) (max a b))):=by
 refine ACall.of_body Tryz.func176 rfl (by kernel_rfl) ?_;simp only [entry,Tryz.ntmps176,tG,A0n];refine zU ?_;refine zR Qv6 Qv6 Qv6 ?_;refine AWp.loopS (α:=Nat) 37 (fun i=>[(1,.c (.int .i64 a)),(2,.c (.int .i64 b)),(3,.c (.ptr 0 0)),(7,.c (.int .i64 (i:Int)))]) (fun i=>[.box [.int .i64 g.n,.slice (A0f g.es) .none]]) (fun i=>i≤g.es.length∧A1H g.es (min a b) (max a b)=A1H (g.es.drop i) (min a b) (max a b)) (fun i=>g.es.length-i) (0) (hk:=Weak.headL 1 37 [1,2,3,7] zW) (h0:=?_) (round:=fun i hI=>?_)
 ·exact ⟨Xw _,rfl⟩
 ·obtain ⟨hi,hx⟩:=hI;by_cases hlt:i<g.es.length
  ·have e1:=A2g (Qq hlt);rw [Zz hlt,A1H] at hx;generalize hy:g.es[i]=x at*;refine zM Qv6 (zc @e1 (zc @A07 (zc @ZJ Qv6))) Qv6 Qv6 Qv6 (zc (ed fun hp hpc=>?_) (zc (ed fun hp hpc=>?_) (ed fun hp hpc=>?_)))
   ·rw [if_pos ⟨by omega,by omega⟩] at hx;simp [A00,A0z,Blk.cells,ty,Tryz.results176,A0v,A0w,toT,A0d,A0b,A0c,A0a,A0n,hx]
   all_goals
    rw [if_neg (by omega)] at hx;refine ⟨i+1,Weak.headN 1 37 [1,2,3,7] zW,?_,?_⟩
    ·exact ⟨hlt,hx⟩
    ·omega
  ·have ei:i=g.es.length:=by omega
   have h0:A1H g.es (min a b) (max a b)=0:=by rw [hx,ei,Qq2,A1H]
   refine zR (zc @A07 (zc @ZJ Qv6)) Qv6 Qv6 ?_;simp [A00,A0z,Blk.cells,ty,Tryz.results176,A0v,A0w,toT,A0d,A0b,A0c,A0a,A0n,h0]
def C2h (hm: ∀e,e∈es->1≤e.m) {a b:Int}:0<A1H es a b↔ ∃e,e∈es∧e.a=a∧e.b=b:=by
 induction es with
 | nil=>simp [A1H]
 | cons x xs ih=>
  have ih:=ih fun e he=>hm e (by simp [he]);simp only [A1H];split
  ·rename_i h;exact ⟨fun _=>⟨x,by simp,h.1,h.2⟩,fun _=>by have:=hm x (by simp); omega⟩
  ·rename_i h;rw [ih];constructor
   ·rintro ⟨e,he,h1,h2⟩; exact ⟨e,by simp [he],h1,h2⟩
   ·rintro ⟨e,he,h1,h2⟩;rcases Qw.1 he with rfl | he
    ·exact absurd ⟨h1,h2⟩ h
    ·exact ⟨e,he,h1,h2⟩
def sumR (f:Nat->Int):Nat->Int
 | 0=>0
 | n+1=>sumR f n+f n
def A06 (f g:Nat->Int) (n:Nat):sumR (fun i=>f i+g i) n=sumR f n+sumR g n:=by
 induction n with
 | zero=>rfl
 | succ n ih=>simp only [sumR,ih]; omega
def A0F {f:Nat->Int} {n:Nat} (h: ∀i,i<n->f i=0):sumR f n=0:=by
 induction n with
 | zero=>rfl
 | succ n ih=>simp only [sumR,ih fun i hi=>h i (by omega),h n (by omega)]; rfl
def A0g {f g:Nat->Int} {n:Nat} (h: ∀i,i<n->f i=g i):sumR f n=sumR g n:=by
 induction n with
 | zero=>rfl
 | succ n ih=>simp only [sumR,ih fun i hi=>h i (by omega),h n (by omega)]
def B05 {f:Nat->Int} {n:Nat} {k:Int} (h: ∀i,i<n->0≤f i∧f i≤k):0≤sumR f n∧sumR f n≤k*n:=by
 induction n with
 | zero=>simp [sumR]
 | succ n ih=>
  have h1:=ih fun i hi=>h i (by omega);have h2:=h n (by omega);have h3:k*((n+1:Nat):Int)=k*(n:Int)+k:=by rw [Int.natCast_add,Qv3]; simp
  simp only [sumR]; omega
def A4n {c m:Int}: ∀{n:Nat},0≤c->c<n->sumR (fun i=>if (i:Int)=c then m else 0) n=m:=by
 intro n
 induction n with
 | zero=>intro h1 h2; omega
 | succ n ih=>
  intro h1 h2;simp only [sumR];by_cases e:(n:Int)=c
  ·rw [if_pos e,A0F (fun i hi=>if_neg (by omega))]; omega
  ·rw [if_neg e,ih h1 (by omega)]; omega
def A5Y (h:es.Pairwise ltE):distinctE es:=h.imp fun {x y} h=>by unfold ltE at h; unfold neE; omega
def B9b {a b:Int} (h: ∀x,x∈es-> ¬(x.a=a∧x.b=b)):A1H es a b=0:=by
 induction es with
 | nil=>rfl
 | cons x xs ih=>simp only [A1H]; rw [if_neg (h x (by simp)),ih fun y hy=>h y (by simp [hy])]
def A9l {x:E} {xs:List E} (h:distinctE (x::xs)) (a b:Int):A1H (x::xs) a b=(if x.a=a∧x.b=b then x.m else 0)+A1H xs a b:=by
 simp only [A1H];by_cases hx:x.a=a∧x.b=b
 ·rw [if_pos hx,if_pos hx,B9b fun y hy=>by
   have:=(Wz.1 h).1 y hy
   unfold neE at this; omega]
  omega
 ·rw [if_neg hx,if_neg hx]; omega
def A7s (x:E) (xs:List E):endsL (x::xs)=List.replicate x.m.toNat (x.a,x.b)++endsL xs:=by simp [endsL]
def C2i (v:Int) (p:Int×Int) (k:Nat):A6W v (List.replicate k p)=k*(b2i (p.1=v)+b2i (p.2=v)):=by
 induction k with
 | zero=>simp [A6W]
 | succ k ih=>rw [List.replicate_succ]; simp only [A6W,ih]; rw [Int.natCast_add,Int.add_mul]; omega
def B51 (hd:distinctE es) (hm: ∀x,x∈es->1≤x.m) (v:Int):A6W v (endsL es)=B8L v es+2*A1H es v v:=by
 induction es with
 | nil=>rfl
 | cons x xs ih=>
  have h1:=hm x (by simp);have h2:=ih (Wz.1 hd).2 fun y hy=>hm y (by simp [hy]);rw [A7s,A9j,C2i,h2,A9l hd,B8L];have e:((x.m.toNat:Nat):Int)=x.m:=by omega
  rw [e];simp only [b2i];by_cases ha:x.a=v<;>by_cases hb:x.b=v
  ·simp [ha,hb]; omega
  ·simp [ha,hb]; rw [if_neg (fun h=>hb h.symm)]; omega
  ·simp [ha,hb]; omega
  ·simp [ha,hb]
def C4u {n:Nat} (hd:distinctE es) (hr: ∀x,x∈es->0≤x.a∧x.a≤x.b∧x.b<n) (v:Int):
  sumR (fun u=>A1H es (min v u) (max v u)) n=B8L v es+A1H es v v:=by
 induction es with
 | nil=>simp only [A1H,B8L]; rw [A0F fun _ _=>rfl]; rfl
 | cons x xs ih=>
  have h1:=hr x (by simp);have h2:=ih (Wz.1 hd).2 fun y hy=>hr y (by simp [hy]);have h3:sumR (fun u=>A1H (x::xs) (min v u) (max v u)) n=sumR (fun u=>if x.a=min v (u:Int)∧x.b=max v (u:Int) then x.m else 0) n+sumR (fun u=>A1H xs (min v u) (max v u)) n:=by
   rw [<-A06]; exact A0g fun i _=>A9l hd _ _
  rw [h3,h2,A9l hd,B8L];by_cases ha:x.a=v
  ·have h4:sumR (fun u=>if x.a=min v (u:Int)∧x.b=max v (u:Int) then x.m else 0) n=x.m:=by
    rw [A0g (g:=fun u=>if (u:Int)=x.b then x.m else 0),A4n (by omega) (by omega)];intro i _;by_cases hi:(i:Int)=x.b
    ·rw [if_pos hi,if_pos (by omega)]
    ·rw [if_neg hi,if_neg (by omega)]
   rw [h4];by_cases hb:x.b=v
   ·rw [if_neg (by omega),if_pos (by omega)]; omega
   ·rw [if_pos (by omega),if_neg (by omega)]; omega
  ·by_cases hb:x.b=v
   ·have h4:sumR (fun u=>if x.a=min v (u:Int)∧x.b=max v (u:Int) then x.m else 0) n=x.m:=by
     rw [A0g (g:=fun u=>if (u:Int)=x.a then x.m else 0),A4n (by omega) (by omega)];intro i _;by_cases hi:(i:Int)=x.a
     ·rw [if_pos hi,if_pos (by omega)]
     ·rw [if_neg hi,if_neg (by omega)]
    rw [h4,if_pos (by omega),if_neg (by omega)]; omega
   ·rw [A0F fun i _=>if_neg (by omega),if_neg (by omega),if_neg (by omega)]; omega
def C4v {n:Nat} {l:List (Int×Int)} (hr: ∀p,p∈l->(0≤p.1∧p.1<n)∧(0≤p.2∧p.2<n)):sumR (fun v=>A6W v l) n=2*l.length:=by
 induction l with
 | nil=>simp only [A6W]; rw [A0F fun _ _=>rfl]; rfl
 | cons p l ih=>
  have h1:=hr p (by simp);have h2:=ih fun q hq=>hr q (by simp [hq]);have h3:sumR (fun v=>A6W v (p::l)) n=sumR (fun v=>if (v:Int)=p.1 then 1 else 0) n+sumR (fun v=>if (v:Int)=p.2 then 1 else 0) n+sumR (fun v=>A6W v l) n:=by
   rw [<-A06,<-A06];refine A0g fun i _=> ?_;simp only [A6W,b2i];congr 1;congr 1
   ·by_cases e:p.1=(i:Int)
    ·rw [if_pos e,if_pos e.symm]
    ·rw [if_neg e,if_neg fun h=>e h.symm]
   ·by_cases e:p.2=(i:Int)
    ·rw [if_pos e,if_pos e.symm]
    ·rw [if_neg e,if_neg fun h=>e h.symm]
  rw [h3,h2,A4n h1.1.1 h1.1.2,A4n h1.2.1 h1.2.2,List.length_cons];omega
def B9c {g:G} {n:Nat} (hc:checkG g=0) (hn:g.n=n):
  sumR (fun v=>B8L v g.es+2*A1H g.es v v) n=2*(endsL g.es).length∧
  (∀v:Int,A6W v (endsL g.es)=B8L v g.es+2*A1H g.es v v)∧
  (∀v:Int,sumR (fun u=>A1H g.es (min v u) (max v u)) n=B8L v g.es+A1H g.es v v):=by
 obtain ⟨h1,h2,h3⟩:=A0j.1 hc;have hd:=A5Y h3;have hv: ∀v:Int,A6W v (endsL g.es)=B8L v g.es+2*A1H g.es v v:=B51 hd fun x hx=>by have:=h2 x hx; unfold okE at this; omega
 refine ⟨?_,hv,fun v=>C4u hd (fun x hx=>by have:=h2 x hx; unfold okE at this; omega) v⟩;rw [<-C4v (n:=n) (l:=endsL g.es)]
 ·exact A0g fun i _=>(hv _).symm
 ·intro p hp;obtain ⟨e,he,hx⟩:=Jq.1 hp;obtain rfl:=Qj1 hx;have:=h2 e he;unfold okE at this;simp only; omega
end Go.Proofs.YtdbdfkohpjefjaaGreat
