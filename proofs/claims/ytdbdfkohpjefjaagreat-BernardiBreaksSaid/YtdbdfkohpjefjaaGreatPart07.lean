/- A part of the proof. -/
import Derived.Test.YtdbdfkohpjefjaaGreatPart05
import Derived.Test.YtdbdfkohpjefjaaGreatPart04
set_option linter.all false
set_option maxHeartbeats 4000000
set_option maxRecDepth 100000
namespace Go.Proofs.YtdbdfkohpjefjaaGreat
open Go.Sp
instance:DecidableEq E:=fun x y=>decidable_of_iff (x.a=y.a∧x.b=y.b∧x.m=y.m) (by cases x; cases y; simp)
def fT (F:List Nat):List Tree:=F.map fun (n:Nat)=>Tree.int .i64 (n:Int)
def fC (F:List Nat):List ACell:=F.map fun (n:Nat)=>ACell.int .i64 (n:Int)
structure FOk (F:List Nat):Prop where
 len:F.length=12
 le: ∀i (h:i<F.length),F[i]≤i
variable {F:List Nat} {i:Nat}
def B4z (h:i<F.length):(fT F).drop i= .int .i64 F[i]::(fT F).drop (i+1):=by
 have h':i<(fT F).length:=by simp [fT,h]
 rw [Zk h'];simp [fT]
def rootF (F:List Nat):Nat->Nat->Nat
 | 0,v=>v
 | n+1,v=>if F.getD v v=v then v else rootF F n (F.getD v v)
def B7n (h:FOk F): ∀{n m v:Nat},v<12->v≤n->v≤m->rootF F n v=rootF F m v:=by
 intro n
 induction n with
 | zero=>
  intro m v _ h1 h2;have:v=0:=by omega
  subst this;cases m with
  | zero=>rfl
  | succ m=>
   have h3:=h.le 0 (by rw [h.len]; omega);simp only [rootF];rw [Qz,Qq (by rw [h.len]; omega),Option.getD_some,if_pos (by omega)]
 | succ n ih=>
  intro m v hv h1 h2;have hl:v<F.length:=by rw [h.len]; exact hv
  have h3:=h.le v hl;have e:F.getD v v=F[v]:=by rw [Qz,Qq hl,Option.getD_some]
  cases m with
  | zero=>
   have:v=0:=by omega
   subst this;simp only [rootF,e];rw [if_pos (by omega)]
  | succ m=>
   simp only [rootF,e];by_cases hx:F[v]=v
   ·rw [if_pos hx,if_pos hx]
   ·rw [if_neg hx,if_neg hx];exact ih (by omega) (by omega) (by omega)
def A2U (h:FOk F) {v:Nat} (hv:v<F.length):rootF F 12 v=if F[v]=v then v else rootF F 12 F[v]:=by
 have hv':v<12:=by rw [<-h.len]; exact hv
 have e:F.getD v v=F[v]:=by rw [Qz,Qq hv,Option.getD_some]
 have h3:=h.le v hv;have:rootF F 12 v=if F[v]=v then v else rootF F 11 F[v]:=by
  show (if F.getD v v=v then v else rootF F 11 (F.getD v v))=_;rw [e]
 rw [this];by_cases hx:F[v]=v
 ·rw [if_pos hx,if_pos hx]
 ·rw [if_neg hx,if_neg hx]; exact B7n h (by omega) (by omega) (by omega)
def A24 (h:FOk F): ∀{n v:Nat},v<12->rootF F n v≤v:=by
 intro n
 induction n with
 | zero=>intro v _; exact Qk _
 | succ n ih=>
  intro v hv;have hl:v<F.length:=by rw [h.len]; exact hv
  have h3:=h.le v hl;have e:F.getD v v=F[v]:=by rw [Qz,Qq hl,Option.getD_some]
  simp only [rootF,e];split
  ·exact Qk _
  ·exact Yw (ih (by omega)) h3
def C4O (F:List Nat) (h:FOk F) (v:Nat) (hv:v<12):ACall Tryz.prog 95 [.t (.rptr (fT F)),A0j v] (A0j (rootF F 12 v)):=by
 have hF:=h.len;refine ACall.of_body Tryz.func95 rfl (by kernel_rfl) ?_;simp only [entry,Tryz.ntmps95,A0j];refine zU ?_;refine zR Qv5 Qv5 Qv5 ?_;refine AWp.loopS (α:=Nat) 18 (fun u=>[(0,.c (.rptr (fT F))),(1,.c (.int .i64 (u:Int)))]) (fun u=>[]) (fun u=>u<12∧rootF F 12 v=rootF F 12 u) (fun u=>u) (v) (hk:=Weak.headL 0 18 [0,1] zW) (h0:=?_) (round:=fun u hI=>?_)
 ·exact ⟨hv,rfl⟩
 ·obtain ⟨hu,hx⟩:=hI;have hul:u<F.length:=by omega
  have e1:=B4z hul;have e2:=A2U h hul;have e3:=h.le u hul;refine zM Qv5 (zc @e1 Qv5) Qv5 Qv5 Qv5 (zc (ed fun hp hpc=>?_) (ed fun hp hpc=>?_))
  ·rw [if_neg (by omega)] at e2;refine ⟨F[u],Weak.headN 0 18 [0,1] zW,?_,?_⟩
   ·exact ⟨by omega,by rw [hx,e2]⟩
   ·omega
  ·rw [if_pos (by omega)] at e2;have e:rootF F 12 v=u:=by rw [hx,e2]
   simp [A0s,A0r,Blk.cells,ty,Tryz.results95,A0o,A0p,toT,A0d,A0b,A0c,A0a,A0j,e]
def A1G (s:List Nat×Int) (p:Int×Int):List Nat×Int:=
 let a:=rootF s.1 12 p.1.toNat;let b:=rootF s.1 12 p.2.toNat
 (s.1.set (max a b) (min a b),if a=b then s.2+1 else s.2)
def genS (l:List (Int×Int)):List Nat×Int:=l.foldl A1G (List.range 12,0)
def C1L (l:List (Int×Int)):Int:=(genS l).2
def A9n (l:List (Int×Int)) (p:Int×Int):genS (l++[p])=A1G (genS l) p:=by simp [genS]
def B0C {s:List Nat×Int} {p:Int×Int} (h:FOk s.1) (h1:0≤p.1∧p.1<12) (h2:0≤p.2∧p.2<12):FOk (A1G s p).1:=by
 refine ⟨by simp [A1G,h.len],fun i hi=> ?_⟩;simp only [A1G] at hi ⊢;rw [Qz5];split
 ·omega
 ·exact h.le i (by simpa using hi)
def B9v {l:List (Int×Int)} (h: ∀p,p∈l->(0≤p.1∧p.1<12)∧(0≤p.2∧p.2<12)):FOk (genS l).1∧0≤(genS l).2∧(genS l).2≤l.length:=by
 have key: ∀(l:List (Int×Int)) (s:List Nat×Int),FOk s.1->(∀p,p∈l->(0≤p.1∧p.1<12)∧(0≤p.2∧p.2<12))->FOk (l.foldl A1G s).1∧s.2≤(l.foldl A1G s).2∧(l.foldl A1G s).2≤s.2+l.length:=by
  intro l
  induction l with
  | nil=>intro s hs _; simp; exact hs
  | cons p l ih=>
   intro s hs hp;have hp1:=hp p (by simp);obtain ⟨q1,q2,q3⟩:=ih (A1G s p) (B0C hs hp1.1 hp1.2) fun q hq=>hp q (by simp [hq]);refine ⟨q1,?_,?_⟩
   ·refine Qw9 ?_ q2; simp only [A1G]; split<;>omega
   ·refine Qw9 q3 ?_; simp only [A1G,List.length_cons]; split<;>omega
 have:=key l (List.range 12,0) ⟨by simp,fun i hi=>by simp⟩ h;unfold genS;simpa using this
def A9o (F:List Nat) (i n:Nat):setMany (fC F) i [.int .i64 (n:Int)]=fC (F.set i n):=by
 simp only [setMany,fC];rw [Qj4]
def A5Z (F:List Nat) (i n:Nat):(fC F).set i (.int .i64 (n:Int))=fC (F.set i n):=by
 simp only [fC];rw [Qj4]
def C27 (l:List (Int×Int)):(genS l).1.length=12:=by
 have key: ∀(l:List (Int×Int)) (s:List Nat×Int),s.1.length=12->(l.foldl A1G s).1.length=12:=by
  intro l
  induction l with
  | nil=>intro s hs; exact hs
  | cons p l ih=>intro s hs; exact ih _ (by simp [A1G,hs])
 exact key l _ (by simp)
def C4P (l:List (Int×Int)): ¬fC (genS l).1=[]:=fun h=>by
 have:=congrArg List.length h;simp [fC,C27] at this
def A0W (F:List Nat):(fC F).length=F.length:=by simp [fC]
variable {es:List E}
def A3W {p:Int×Int} (h:p∈endsL es): ∃e,e∈es∧p=(e.a,e.b):=by
 unfold endsL at h;obtain ⟨e,he,hp⟩:=Jy.1 h;exact ⟨e,he,(Wq.1 hp).2⟩
def ends_range {g:G} (hc:checkG g=0) {p:Int×Int} (h:p∈endsL g.es):(0≤p.1∧p.1<g.n)∧(0≤p.2∧p.2<g.n):=by
 obtain ⟨e,he,rfl⟩:=A3W h;have:=(A0h.1 hc).2.1 e he;unfold okE at this;simp only; omega
def B1C (F:List Nat):(fC F).mapM A0a=some (fT F):=by
 induction F with
 | nil=>rfl
 | cons x xs ih=>
  simp only [fC,fT,XY,JY,A0a] at ih ⊢;rw [ih]; rfl
def B3b (F:List Nat) (h:FOk F) (v:Nat) (hv:v<12) {H:List Blk} {id:Nat} (hb:H[id]? =some (.box (fC F))):
  ACallH Tryz.prog 95 H [.c (.ptr id 0),.c (.int .i64 (v:Int))] H (.c (.int .i64 (rootF F 12 v:Nat))):=
 ACall.hb (C4O F h v hv) (by simp [toT,A0d,A0b,hb,Blk.cells,B1C,A0a,A0j]) rfl
def A7w (i:Nat):List Nat:=List.range i++List.replicate (12-i) 0
def A9p (h:i<12):(A7w i).set i i=A7w (i+1):=by
 unfold A7w;rw [show 12-i=(12-(i+1))+1 by omega,List.replicate_succ,WQ];rw [Vq _ _ (by simp)];simp
def A9q (h:i≤12):(A7w i).length=12:=by unfold A7w; simp; omega
def B1D:A7w 12=List.range 12:=by unfold A7w; simp
def C28 (g:G) (hl:g.es.length<2^30):ACall Tryz.prog 46 [tG g] (.tup [A0j (if checkG g≠0 then 0 else C1L (endsL g.es)),A0j (checkG g)]):=by
 refine ACall.of_body Tryz.func46 rfl (by kernel_rfl) ?_;simp only [entry,Tryz.ntmps46,tG];refine zU ?_;refine zM Qv5 Qv5 (zc (A8m g (by omega)) Qv5) Qv5 Qv5 (zc (ed fun hp hpc=>?_) (ed fun hp hpc=>?_))
 ·rw [if_pos (by assumption)];simp [A0s,A0r,Blk.cells,ty,Tryz.results46,A0o,A0p,toT,A0d,A0b,A0c,A0a,A0j]
 ·rw [if_neg (by omega)];have hc:checkG g=0:=by omega
  have hs:=B8U hl hc;refine AWp.loopS (α:=Nat) 47 (fun i=>[(1,.c (.ptr 0 0)),(5,.c (.ptr 1 0)),(17,.c (.int .i64 (i:Int)))]) (fun i=>[.box [.int .i64 g.n,.slice (A0f g.es) .none],.box (fC (A7w i))]) (fun i=>i≤12) (fun i=>12-i) (0) (hk:=Weak.headL 2 47 [1,5,17] zW) (h0:=?_) (round:=fun i hI=>?_)
  ·exact Xj _
  ·by_cases hlt:i<12
   ·have hset:=A9p hlt;have hlen:=A9q hI;generalize A7w i=F at*;refine zR (zc @A0W (zc @hlen (zc @A9o (zc @A5Z (zc @hset Qv5))))) Qv5 Qv5 ?_;refine ⟨i+1,Weak.headN 2 47 [1,5,17] zW,?_,?_⟩
    ·exact hlt
    ·omega
   ·have ei:i=12:=by omega
    subst ei;refine zR Qv5 (zc (B01 g) Qv5) Qv5 ?_;refine AWp.weak (Weak.head (m:=3) (by omega) ((fun t f=>[f,t,f,f,f,t,f,t,f,f,f,f,f,f,f,f,f,f,f,f,f,f,f,f,f,t,f,f,f,f,f,f,f,f,f,f,f,f,f,f,f,f,f,f,f,f,f]) true false) (by first | rfl | simp [mask]) (by first | rfl | simp) (zWs trivial) (zWs trivial)) (AWp.rangeFunc (fun k H=>H=[.box [.int .i64 g.n,.slice (A0f g.es) .none],.box (fC (genS ((endsL g.es).take k)).1),.box [.int .i64 (genS ((endsL g.es).take k)).2]]∧(True)) (fun _ _=>False) 3 rfl (A9f g hs.s hs.es hs.m) (B2S rfl) (by omega) (zWs trivial) (by rintro _ _ ⟨rfl,-⟩; simp [C4P]) (fun _ _ h=>h.elim) ?_ (fun l k ts H hts hI=> ?_) (fun H hI=> ?_) (fun e H h=>h.elim))
    ·exact ⟨by rw [B1D]; simp [genS],trivial⟩
    ·obtain ⟨rfl,-⟩:=hI;obtain ⟨p,hp,rfl⟩:=A7t hts;have hrng:=ends_range hc (Qv hp);have hn12:=(A0h.1 hc).1;have hok:=B9v (l:=(endsL g.es).take k) fun q hq=>by
      have:=ends_range hc (JZ hq); omega
     have hk:k<(endsL g.es).length:=(Qx.1 hp).1;have hkl:((endsL g.es).take k).length≤k:=by rw [Wk]; omega
     have hsn:=take_snoc hp;have hnx:=A9n ((endsL g.es).take k) p;rw [<-hsn] at hnx;have hs3:=hs.s;obtain ⟨p1,p2⟩:=p;obtain ⟨a,rfl⟩:=Zx hrng.1.1;obtain ⟨b,rfl⟩:=Zx hrng.2.1;have ha:a<12:=by omega
     have hb:b<12:=by omega
     generalize genS ((endsL g.es).take k)=s at*;obtain ⟨F,c⟩:=s;have hF:=hok.1;have la:=A24 hF (n:=12) ha;have lb:=A24 hF (n:=12) hb;simp only [A1G,Int.toNat_natCast] at hnx;simp only [mask,A45,List.zip_cons_cons,WV,List.zip_nil_left,List.foldl_cons,List.foldl_nil,List.set_cons_succ,List.set_cons_zero,ofT,A3v,A0v,XY,ZQ,ofT,A3v,toT,A0p,A0a,A0j,A0q,A3w,tG,A06,A0k];generalize hx:rootF F 12 a=x at*;generalize hy:rootF F 12 b=y at*;have hmax:max (x:Int) (y:Int)=((max x y:Nat):Int):=by omega
     have hmin:min (x:Int) (y:Int)=((min x y:Nat):Int):=by omega
     have rx:=B3b F hF a ha (H:=[.box [.int .i64 g.n,.slice (A0f g.es) .none],.box (fC F),.box [.int .i64 c],.box [.int .i64 (a:Int),.int .i64 (b:Int)]]) (id:=1) rfl;have ry:=B3b F hF b hb (H:=[.box [.int .i64 g.n,.slice (A0f g.es) .none],.box (fC F),.box [.int .i64 c],.box [.int .i64 (a:Int),.int .i64 (b:Int)]]) (id:=1) rfl;rw [hx] at rx;rw [hy] at ry;refine zM Qv5 (zc @A0W (zc @A9o (zc @A5Z (zc @hmax (zc @hmin (zc @hF.len Qv5)))))) Qv5 (zc rx (zc ry Qv5)) Qv5 (zc (ed fun hp hpc=>?_) (ed fun hp hpc=>?_))
     all_goals
      refine ⟨⟨_,_⟩,Weak.head2 (m:=3) (by decide) ((fun t f=>[f,f,f,f,f,f,f,f,f,f,f,f,f,f,f,f,f,f,f,f,f,f,f,f,f,f,f,f,f,f,f,f,f,f,f,f,f,f,f,f,f,f,f,f,f,f,f]) true false) rfl rfl zW,?_,?_⟩
      ·have hxy:(x=y)∨ ¬(x=y):=Classical.em _;have hg:genS (List.take (k+1) (endsL g.es))=(F.set (max x y) (min x y),if x=y then c+1 else c):=hnx;rw [hg];rcases hxy with hxy | hxy
       ·first
         | (simp [hxy]; done)
         | (exfalso; omega)
       ·first
         | (simp [hxy]; done)
         | (exfalso; omega)
      ·trivial
    ·obtain ⟨rfl,-⟩:=hI;simp only [mask];have e0:checkG g=0:=hc;refine zR Qv5 Qv5 Qv5 ?_;simp [A0s,A0r,Blk.cells,ty,Tryz.results46,A0o,A0p,toT,A0d,A0b,A0c,A0a,A0j,A7s,e0,C1L]
def b2i (p:Prop) [Decidable p]:Int:=if p then 1 else 0
def C4Q (v:Int):List (Int×Int)->Int
 | []=>0
 | p::l=>b2i (p.1=v)+b2i (p.2=v)+C4Q v l
def A49 (n:Int):Option Int->List Int->Int
 | _,[]=>0
 | p,v::l=>if ¬(0≤v∧v<n) then 2 else if (∃u,p=some u∧v≤u) then 9 else A49 n (some v) l
def B3P (g:G) (l:List Int):Int:=if checkG g≠0 then checkG g else A49 g.n none l
def A9r (g:G) (l:List Int) (hg:g.es.length<2^40) (hl:l.length<2^40):ACall Tryz.prog 90 [tG g,A0k l] (A0j (B3P g l)):=by
 refine ACall.of_body Tryz.func90 rfl (by kernel_rfl) ?_;simp only [entry,Tryz.ntmps90,tG,A0k];refine zU ?_;refine zM Qv5 (zc @A0e Qv5) (zc (A8m g hg) Qv5) Qv5 Qv5 (zc (ed fun hp hpc=>?_) (ed fun hp hpc=>?_))
 ·have e:B3P g l=checkG g:=by unfold B3P; rw [if_pos (by assumption)]
  simp [A0s,A0r,Blk.cells,ty,Tryz.results90,A0o,A0p,toT,A0d,A0b,A0c,A0a,A0j,e]
 ·have hc:checkG g=0:=by omega
  have e:B3P g l=A49 g.n none l:=by unfold B3P; rw [if_neg (by omega)]
  rw [e];refine AWp.loopS (α:=Nat) 37 (fun k=>[(1,.c (.slice (A0l l) .none)),(2,.c (.ptr 0 0)),(13,.c (.slice (A0l l) .none)),(14,.c (.int .i64 l.length)),(15,.c (.int .i64 (k:Int)))]) (fun k=>[.box [.int .i64 g.n,.slice (A0f g.es) .none]]) (fun k=>k≤l.length∧A49 g.n none l=A49 g.n (match k with | 0=>none | j+1=>l[j]?) (l.drop k)) (fun k=>l.length-k) (0) (hk:=Weak.headL 1 37 [1,2,13,14,15] zW) (h0:=?_) (round:=fun k hI=>?_)
  ·exact ⟨Xj _,rfl⟩
  ·obtain ⟨hk,hx⟩:=hI;by_cases hlt:k<l.length
   ·have e0:=Qq hlt;have e1:=A0t e0;rw [Zk hlt,A49] at hx;generalize hv:l[k]=v at*;cases k with
    | zero=>
     simp only [reduceCtorEq,false_and,exists_false,if_false] at hx;refine zM Qv5 (zc @e1 (zc @Yx Qv5)) (zc A9e Qv5) Qv5 Qv5 (zc (ed fun hp hpc=>?_) (ed fun hp hpc=>?_))
     ·rw [if_pos (by assumption)] at hx;simp [A0s,A0r,Blk.cells,ty,Tryz.results90,A0o,A0p,toT,A0d,A0b,A0c,A0a,A0j,hx]
     ·rw [if_neg (by omega)] at hx;refine ⟨0+1,Weak.headN 1 37 [1,2,13,14,15] zW,?_,?_⟩
      ·exact ⟨hlt,hx.trans (by simp only [e0])⟩
      ·omega
    | succ j=>
     have e2:=Qq (show j<l.length by omega);have e3:=A0t e2;have hj1:((j+1:Nat):Int)-1=(j:Int):=by omega
     simp only [e2,Vv,exists_eq_left'] at hx;generalize hu:l[j]=u at*;refine zM Qv5 (zc @e1 (zc @e3 (zc @hj1 (zc @Yx Qv5)))) (zc A9e Qv5) Qv5 Qv5 (zc (ed fun hp hpc=>?_) (zc (ed fun hp hpc=>?_) (ed fun hp hpc=>?_)))
     ·rw [if_pos (by assumption)] at hx;simp [A0s,A0r,Blk.cells,ty,Tryz.results90,A0o,A0p,toT,A0d,A0b,A0c,A0a,A0j,hx]
     ·rw [if_neg (by omega),if_pos (by assumption)] at hx;simp [A0s,A0r,Blk.cells,ty,Tryz.results90,A0o,A0p,toT,A0d,A0b,A0c,A0a,A0j,hx]
     ·rw [if_neg (by omega),if_neg (by omega)] at hx;refine ⟨j+1+1,Weak.headN 1 37 [1,2,13,14,15] zW,?_,?_⟩
      ·exact ⟨hlt,hx.trans (by simp only [e0])⟩
      ·omega
   ·have e:k=l.length:=by omega
    have e:A49 g.n none l=0:=by rw [hx,e,Qq9]; rfl
    refine zR (zc @Yx Qv5) Qv5 Qv5 ?_;simp [A0s,A0r,Blk.cells,ty,Tryz.results90,A0o,A0p,toT,A0d,A0b,A0c,A0a,A0j,e]
def C29 (set:List Int) (p:Int×Int):Bool:= !decide (decide (p.1∈set)=decide (p.2∈set))
def C2A (set:List Int) (l:List (Int×Int)):List Int:=l.zipIdx.filterMap fun q=>if C29 set q.1 then some (q.2:Int) else none
def A3k (F:Int->Int) (l:List E) (x:E):List E:=if 0≤F x.a∧0≤F x.b then A19 l (min (F x.a) (F x.b)) (max (F x.a) (F x.b)) x.m else l
def B40 (F:Int->Int) (es:List E):List E:=es.foldl (A3k F) []
def B9w {F:Int->Int} {es:List E} {i:Nat} (h:i<es.length):B40 F (es.take (i+1))=A3k F (B40 F (es.take i)) es[i]:=by
 rw [Xy h]; simp only [B40,Qw2,List.foldl_cons,List.foldl_nil]
structure MovOk (k:Nat) (es:List E):Prop where
 d:distinctE es
 len:es.length≤k
 r: ∀e,e∈es->(0≤e.a∧e.a<12)∧(0≤e.b∧e.b<12)
def C2B {F:Int->Int} {k:Nat} {es:List E} (h:MovOk k es) {x:E} (h1:F x.a<12) (h2:F x.b<12):MovOk (k+1) (A3k F es x):=by
 unfold A3k;split
 ·refine ⟨A4Y h.d,Yw (B06 ..) (by have:=h.len; omega),fun e he=> ?_⟩;rcases A52 he with he | rfl
  ·exact h.r e he
  ·simp only; omega
 ·exact ⟨h.d,by have:=h.len; omega,h.r⟩
def C2C {k:Nat} (h:MovOk k es): ∀e,e∈mE es->(KShape.ints 2).ok e.1=true:=by
 intro e he;obtain ⟨x,hx,rfl⟩:=QY.1 he;have:=h.r x hx;exact key_ok this.1 this.2
def C6B:mE []=[]:=rfl
def C2D (g:G) (n:Int) (f:Nat) (rows:List (List Tree)) (F:Int->Int) (hl:g.es.length<2^20)
  (hF: ∀x,x∈g.es->(ACall Tryz.prog f [A0j x.a,.t (.rptr [.slice rows])] (A0j (F x.a))∧F x.a<12)∧(ACall Tryz.prog f [A0j x.b,.t (.rptr [.slice rows])] (A0j (F x.b))∧F x.b<12)):
  ACall Tryz.prog 91 [tG g,A0j n,.t (.fn f [.rptr [.slice rows]])] (tG ⟨n,A3i (B40 F g.es)⟩):=by
 refine ACall.of_body Tryz.func91 rfl (by kernel_rfl) ?_;simp only [entry,Tryz.ntmps91,tG,A0j];refine zU ?_;refine zR (zc @A00 Qv5) Qv5 Qv5 ?_;rw [<-C6B];refine AWp.loopS (α:=Nat) 44 (fun i=>[(1,.c (.int .i64 n)),(2,.c (.fn f [.tree (.rptr [.slice rows])])),(3,.c (.ptr 0 0)),(6,.c (.ptr 1 0)),(7,.c (.map 2)),(14,.c (.slice (A0f g.es) .none)),(15,.c (.int .i64 g.es.length)),(16,.c (.int .i64 (i:Int)))]) (fun i=>[.box [.int .i64 g.n,.slice (A0f g.es) .none],.box [.int .i64 0,.nils],.map (mE (B40 F (g.es.take i)))]) (fun i=>i≤g.es.length∧MovOk i (B40 F (g.es.take i))) (fun i=>g.es.length-i) (0) (hk:=Weak.headL 3 44 [1,2,3,6,7,14,15,16] zW) (h0:=?_) (round:=fun i hI=>?_)
 ·exact ⟨Xj _,List.Pairwise.nil,by simp [B40],by simp [B40]⟩
 ·obtain ⟨hi,hbag⟩:=hI;by_cases hlt:i<g.es.length
  ·have e0:=Qq hlt;have e1:=A2j e0;have hnx:=B9w (F:=F) hlt;have hc:=hF _ (Xw hlt);have hst:=C2B (F:=F) hbag hc.1.2 hc.2.2;rw [<-hnx] at hst;have hks:=C2C hbag;generalize B40 F (g.es.take i)=es at*;generalize g.es[i]=x at*;have hk:0≤F x.a->0≤F x.b->(KShape.ints 2).ok (.ints [min (F x.a) (F x.b),max (F x.a) (F x.b)])=true:=fun h1 h2=>key_ok (by omega) (by omega)
   repeat' (first|((first|(refine zT ?_;intro K' hK')|(refine zG ?_ ?_<;>(try refine zH ?_)<;>intro hguard<;>(try exact zX)<;>try intro K' hK'))<;>((try simp+contextual only [go_sem,e1,Int.toNat_natCast,Yx,A2N,B19]);(repeat' first|(with_reducible refine hK' _ _ ?_;clear hK' K')|((with_reducible first|refine zK hc.1.1 ?_|refine zK hc.2.1 ?_|refine zK (B8S _ _) ?_);try simp+contextual only [go_sem,e1,Int.toNat_natCast,Yx,A2N,B19])|(refine ⟨_,C60,hk (by assumption) (by assumption),hks,?_⟩ ; simp+contextual only [go_sem,e1,Int.toNat_natCast,Yx,A2N,B19])|exact zY|with_reducible refine Qv4 ?_ ?_|(with_reducible intro hpath;try exact zP)|(refine hK' _ _ ?_;clear hK' K')|fail);try refine zS ?_))|(refine zE ?_;refine hK _ _ ?_;clear hK K)|(refine zN ?_;try refine zS ?_)|refine zA ?_|(refine zB ?_;intro K hK)|(refine zC ?_ ?_<;>(try refine zH ?_)<;>intro hcond<;>try exact zX)|fail)
   ·have e:A3k F es x=A19 es (min (F x.a) (F x.b)) (max (F x.a) (F x.b)) x.m:=if_pos ⟨by assumption,by assumption⟩;rw [e] at hnx;refine ⟨i+1,Weak.headF 3 44 [1,2,3,6,7,14,15,16] (zc @hnx (zc @B19 Qv5)) zW,?_,?_⟩
    ·exact ⟨hlt,hst⟩
    ·omega
   all_goals
    have e:A3k F es x=es:=if_neg (by omega);rw [e] at hnx;refine ⟨i+1,Weak.headF 3 44 [1,2,3,6,7,14,15,16] (zc @hnx Qv5) zW,?_,?_⟩
    ·exact ⟨hlt,hst⟩
    ·omega
  ·have ei:i=g.es.length:=by omega
   subst ei;rw [Zz] at hbag ⊢;generalize B40 F g.es=L at*;have hLl:=hbag.len
   repeat' (first|((first|(refine zT ?_;intro K' hK')|(refine zG ?_ ?_<;>(try refine zH ?_)<;>intro hguard<;>(try exact zX)<;>try intro K' hK'))<;>((try simp+contextual only [go_sem,Yx]);(repeat' first|(with_reducible refine hK' _ _ ?_;clear hK' K')|((with_reducible first|refine ⟨_,_,ACallX.h1 (B5F n L hbag.d (by omega)) (by with_unfolding_all rfl) (by with_unfolding_all rfl),?_⟩|refine ⟨_,ACallX.h1 (B5F n L hbag.d (by omega)) (by with_unfolding_all rfl) (by with_unfolding_all rfl),?_⟩);try simp+contextual only [go_sem,Yx])|exact zY|with_reducible refine Qv4 ?_ ?_|(with_reducible intro hpath;try exact zP)|(refine hK' _ _ ?_;clear hK' K')|fail);try refine zS ?_))|(refine zE ?_;refine hK _ _ ?_;clear hK K)|(refine zN ?_;try refine zS ?_)|refine zA ?_|(refine zB ?_;intro K hK)|(refine zC ?_ ?_<;>(try refine zH ?_)<;>intro hcond<;>try exact zX)|fail)
   simp [A0s,A0r,Blk.cells,ty,Tryz.results91,A0o,A0p,toT,A0d,A0b,A0c,A0a,A0j,tG,A0f]
def B41 (l:List Int) (v:Int):A1A l v<l.length:=by
 induction l with
 | nil=>simp [A1A]
 | cons x xs ih=>simp only [A1A,List.length_cons]; (repeat' split)<;>omega
def B5M {n:Int}: ∀{l:List Int} {u:Int},A49 n (some u) l=0->u<n->(l.length:Int)≤n-1-u
 | [],u,_,hu=>by simp; omega
 | v::l,u,h,hu=>by
  simp only [A49,Vv,exists_eq_left'] at h;split at h
  ·omega
  ·split at h
   ·omega
   ·have:=B5M h (by omega);simp only [List.length_cons]; omega
def B9x {n:Int} (hn:0≤n) {l:List Int} (h:A49 n none l=0):(l.length:Int)≤n:=by
 cases l with
 | nil=>simpa using hn
 | cons v l=>
  simp only [A49,reduceCtorEq,false_and,exists_false,if_false] at h;split at h
  ·omega
  ·have:=B5M h (by omega);simp only [List.length_cons]; omega
def B9y (l:List Int) (v:Int) (hl:l.length<2^40):ACall Tryz.prog 92 [A0j v,.t (.rptr [.slice (A0l l)])] (A0j (A1A l v)):=by
 refine ACall.of_body Tryz.func92 rfl (by kernel_rfl) ?_;simp only [entry,Tryz.ntmps92,A0j];refine zU ?_;refine zR Qv5 (zc (B5I l v hl) Qv5) Qv5 ?_;simp [A0s,A0r,Blk.cells,ty,Tryz.results92,A0o,A0p,toT,A0d,A0b,A0c,A0a,A0j]
noncomputable def indE (g:G) (l:List Int):Int:=if B3P g l≠0 then B3P g l else if l=[] then 14 else 0
noncomputable def B8i (g:G) (l:List Int):G:=if indE g l≠0 then ⟨0,[]⟩ else ⟨l.length,A3i (B40 (A1A l) g.es)⟩
def B7o (g:G) (l:List Int) (hg:g.es.length<2^20) (hl:l.length<2^40):ACall Tryz.prog 45 [tG g,A0k l] (.tup [tG (B8i g l),A0j (indE g l)]):=by
 refine ACall.of_body Tryz.func45 rfl (by kernel_rfl) ?_;simp only [entry,Tryz.ntmps45,tG,A0k];refine zU ?_;refine AWp.seq_region (fun K hK=> ?_)
 repeat' (first|((first|(refine zT ?_;intro K' hK')|(refine zG ?_ ?_<;>(try refine zH ?_)<;>intro hguard<;>(try exact zX)<;>try intro K' hK'))<;>((try simp+contextual only [go_sem]);(repeat' first|(with_reducible refine hK' _ _ ?_;clear hK' K')|exact zY|with_reducible refine Qv4 ?_ ?_|(with_reducible intro hpath;try exact zP)|(refine hK' _ _ ?_;clear hK' K')|fail);try refine zS ?_))|(refine zE ?_;refine hK _ _ ?_;clear hK K)|(refine zN ?_;try refine zS ?_)|fail)
 refine AWp.freezeP 3 1 rfl rfl rfl ?_;simp only [List.set_cons_succ,List.set_cons_zero];by_cases hs0:B3P g l≠0
 ·have e:indE g l=B3P g l:=if_pos (by assumption);have e2:B8i g l=⟨0,[]⟩:=if_pos (by rw [e]; assumption);refine zM Qv5 (zc @A0e Qv5) (zc (A9r g l (by omega) hl) Qv5) Qv5 Qv5 (ed fun hp hpc=>?_);simp [A0s,A0r,Blk.cells,ty,Tryz.results45,A0o,A0p,toT,A0d,A0b,A0c,A0a,A0j,tG,e,e2,A0f]
 ·have hs0:B3P g l=0:=by omega
  by_cases el:l=[]
  ·have e:indE g l=14:=by unfold indE; rw [if_neg (by omega),if_pos el]
   have e2:B8i g l=⟨0,[]⟩:=if_pos (by rw [e]; decide);have el2:l.length=0:=by simp [el]
   refine zM Qv5 (zc @A0e Qv5) (zc (A9r g l (by omega) hl) Qv5) Qv5 Qv5 (ed fun hp hpc=>?_);simp [A0s,A0r,Blk.cells,ty,Tryz.results45,A0o,A0p,toT,A0d,A0b,A0c,A0a,A0j,tG,e,e2,A0f]
  ·have hc:checkG g=0:=by unfold B3P at hs0; split at hs0<;>omega
   have hn:=(A0h.1 hc).1;have hse:A49 g.n none l=0:=by unfold B3P at hs0; rwa [if_neg (by omega)] at hs0
   have hlen:=B9x (by omega) hse;have e:indE g l=0:=by unfold indE; rw [if_neg (by omega),if_neg el]
   have e2:B8i g l=⟨l.length,A3i (B40 (A1A l) g.es)⟩:=if_neg (by rw [e]; decide);have hi: ∀v,A1A l v<12:=fun v=>by have:=B41 l v; omega
   have hl0:0<l.length:=Wy.2 el;have hmv:=C2D g l.length 92 (A0l l) (A1A l) hg (fun x _=>⟨⟨B9y l _ hl,hi _⟩,⟨B9y l _ hl,hi _⟩⟩);refine zM Qv5 (zc @A0e Qv5) (zc (A9r g l (by omega) hl) (zc hmv Qv5)) Qv5 Qv5 (ed fun hp hpc=>?_);simp [A0s,A0r,Blk.cells,ty,Tryz.results45,A0o,A0p,toT,A0d,A0b,A0c,A0a,A0j,tG,e,e2,A0f]
instance ltE.dec:DecidableRel ltE:=fun x y=>by unfold ltE; infer_instance
def part:G:=⟨3,[⟨0,1,2⟩,⟨0,2,1⟩]⟩
structure RightG (g:G) (n:Nat):Prop where
 c:checkG g=0
 nn:g.n=n
 n1:1≤n
 n12:n≤12
 l:g.es.length≤40
 s:(endsL g.es).length≤400
def B42 (g:G) (a b:Int) (hl:g.es.length<2^40):ACall Tryz.prog 176 [tG g,A0j a,A0j b] (A0j (A3I g.es (min a b) (max a b))):=by
 refine ACall.of_body Tryz.func176 rfl (by kernel_rfl) ?_;simp only [entry,Tryz.ntmps176,tG,A0j];refine zU ?_;refine zR Qv5 Qv5 Qv5 ?_;refine AWp.loopS (α:=Nat) 37 (fun i=>[(1,.c (.int .i64 a)),(2,.c (.int .i64 b)),(3,.c (.ptr 0 0)),(7,.c (.int .i64 (i:Int)))]) (fun i=>[.box [.int .i64 g.n,.slice (A0f g.es) .none]]) (fun i=>i≤g.es.length∧A3I g.es (min a b) (max a b)=A3I (g.es.drop i) (min a b) (max a b)) (fun i=>g.es.length-i) (0) (hk:=Weak.headL 1 37 [1,2,3,7] zW) (h0:=?_) (round:=fun i hI=>?_)
 ·exact ⟨Xj _,rfl⟩
 ·obtain ⟨hi,hx⟩:=hI;by_cases hlt:i<g.es.length
  ·have e1:=A2j (Qq hlt);rw [Zk hlt,A3I] at hx;generalize hy:g.es[i]=x at*;refine zM Qv5 (zc @e1 (zc @A00 (zc @Yx Qv5))) Qv5 Qv5 Qv5 (zc (ed fun hp hpc=>?_) (zc (ed fun hp hpc=>?_) (ed fun hp hpc=>?_)))
   ·rw [if_pos ⟨by omega,by omega⟩] at hx;simp [A0s,A0r,Blk.cells,ty,Tryz.results176,A0o,A0p,toT,A0d,A0b,A0c,A0a,A0j,hx]
   all_goals
    rw [if_neg (by omega)] at hx;refine ⟨i+1,Weak.headN 1 37 [1,2,3,7] zW,?_,?_⟩
    ·exact ⟨hlt,hx⟩
    ·omega
  ·have ei:i=g.es.length:=by omega
   have h0:A3I g.es (min a b) (max a b)=0:=by rw [hx,ei,Qq9,A3I]
   refine zR (zc @A00 (zc @Yx Qv5)) Qv5 Qv5 ?_;simp [A0s,A0r,Blk.cells,ty,Tryz.results176,A0o,A0p,toT,A0d,A0b,A0c,A0a,A0j,h0]
def C2E (hm: ∀e,e∈es->1≤e.m) {a b:Int}:0<A3I es a b↔ ∃e,e∈es∧e.a=a∧e.b=b:=by
 induction es with
 | nil=>simp [A3I]
 | cons x xs ih=>
  have ih:=ih fun e he=>hm e (by simp [he]);simp only [A3I];split
  ·rename_i h;exact ⟨fun _=>⟨x,by simp,h.1,h.2⟩,fun _=>by have:=hm x (by simp); omega⟩
  ·rename_i h;rw [ih];constructor
   ·rintro ⟨e,he,h1,h2⟩; exact ⟨e,by simp [he],h1,h2⟩
   ·rintro ⟨e,he,h1,h2⟩;rcases QV.1 he with rfl | he
    ·exact absurd ⟨h1,h2⟩ h
    ·exact ⟨e,he,h1,h2⟩
def bC (R:List Bool):List ACell:=R.map ACell.bool
def A46 (R:List Bool):List (List Tree):=R.map fun b=>[Tree.bool b]
def B0D (R:List Bool):TVal:= .t (.slice (A46 R))
attribute [go_sem] B0D
def A1Z (R:List Bool):(bC R).length=R.length:=by simp [bC]
def A5a (R:List Bool):(A46 R).length=R.length:=by simp [A46]
def B0E {R:List Bool} {b:Bool} (h:R[i]? =some b):(bC R)[i]? =some (.bool b):=by simp [bC,h]
def B9z {R:List Bool} {b:Bool} (h:R[i]? =some b):(A46 R)[i]? =some [.bool b]:=by simp [A46,h]
def A68 (R:List Bool) (i:Nat) (b:Bool):(bC R).set i (.bool b)=bC (R.set i b):=by simp [bC,Qj4]
def B43 {R:List Bool} {b:Bool} (h:R[i]? =some b):(bC R).drop i= .bool b::(bC R).drop (i+1):=by
 have hl:=(Qx.1 h);rw [Zk (by rw [A1Z]; exact hl.1)];obtain ⟨h1,rfl⟩:=hl;simp [bC]
def A3X (n:Nat):A7f [ACell.bool false] n=bC (List.replicate n false):=by
 simp [A7f,bC]
def B8j (es:List E) (a b:Nat):Bool:=decide (0<A3I es (min (a:Int) b) (max (a:Int) b))
def A3Y (es:List E) (a:Nat) (R:List Bool) (b:Nat):List Bool:=if R.getD a false&&B8j es a b then R.set b true else R
def rRow (es:List E) (n a:Nat) (R:List Bool):List Bool:=(List.range n).foldl (A3Y es a) R
def A7R (es:List E) (n:Nat) (R:List Bool):List Bool:=(List.range n).foldl (fun R a=>rRow es n a R) R
def A1w (es:List E) (n v k:Nat):List Bool:=(List.range k).foldl (fun R _=>A7R es n R) ((List.replicate n false).set v true)
def A9s (es:List E) (n v:Nat):List Bool:=A1w es n v n
def A0T {α:Type} (f:α->Nat->α) (z:α) (k:Nat):(List.range (k+1)).foldl f z=f ((List.range k).foldl f z) k:=by rw [WQ,Qw2]; rfl
def A3l {f:List Bool->Nat->List Bool} (h: ∀R i,(f R i).length=R.length) (l:List Nat) (R:List Bool):(l.foldl f R).length=R.length:=by
 induction l generalizing R with
 | nil=>rfl
 | cons x xs ih=>rw [List.foldl_cons,ih,h]
def A69 (es:List E) (a:Nat) (R:List Bool) (b:Nat):(A3Y es a R b).length=R.length:=by unfold A3Y; split<;>simp
def B5N (es:List E) (n a:Nat) (R:List Bool):(rRow es n a R).length=R.length:=A3l (A69 es a) _ _
def B7p (es:List E) (n:Nat) (R:List Bool):(A7R es n R).length=R.length:=A3l (fun R a=>B5N es n a R) _ _
def A54 (es:List E) (n v k:Nat):(A1w es n v k).length=n:=by
 unfold A1w; rw [A3l (fun R _=>B7p es n R)]; simp
def B90 {es:List E} {a:Nat} {R:List Bool} {b:Nat} {x:Bool} (h:R[a]? =some x):A3Y es a R b=if x=true∧0<A3I es (min (a:Int) b) (max (a:Int) b) then R.set b true else R:=by
 unfold A3Y B8j;rw [Qz,h,Option.getD_some];cases x<;>simp
def A8r {R:List Bool} {n a:Nat} (h:R.length=n) (ha:a<n): ∃x,R[a]? =some x:=⟨_,Qq (by omega)⟩
def C6C {R:List Bool} {n:Nat} (h:R.length=n) {H:List Blk} {id:Nat} (hid:H[id]? =some (.box (bC R))):A0d H (.ref id 1 0 n n)=some (.slice (A46 R)):=by
 have e:A0d H (.ref id 1 0 n n)=A0b H (.ref id 1 0 n n):=rfl;have hf:=A4P (rows:=A46 R) (k:=1) (cap:=n) (fun r hr=>by obtain ⟨b,_,rfl⟩:=QY.1 hr; rfl) (fun r hr=>by obtain ⟨b,_,rfl⟩:=QY.1 hr; rfl) (by rw [A5a]; omega);have hfl:flatRows (A46 R)=bC R:=by
  simp only [flatRows,A46,bC];clear e hf hid h
  induction R with
  | nil=>rfl
  | cons x xs ih=>simp only [XY,List.flatten_cons,Jz,ih]; rfl
 rw [hfl,A5a,h] at hf;unfold A4O at hf;rw [e];simp only [A0b,hid,Blk.cells,Option.bind_some];split at hf
 ·rename_i hc;rw [if_pos hc];cases hm:(((bC R).drop 0).take (n*1)).mapM A0a with
  | none=>rw [hm] at hf; simp at hf
  | some ts=>
   rw [hm] at hf;simp only [Option.bind_some] at hf;split at hf
   ·simp at hf; simp [hf]
   ·simp at hf
 ·simp at hf
def B7q (g:G) (n v:Nat) (hc:checkG g=0) (hn:g.n=n) (hv:v<n) (hl:g.es.length<2^30):ACall Tryz.prog 145 [tG g,A0j v] (B0D (A9s g.es n v)):=by
 have hn12:=(A0h.1 hc).1;have hbe: ∀a b:Nat,ACall Tryz.prog 176 [tG g,A0j a,A0j b] (A0j (A3I g.es (min (a:Int) b) (max (a:Int) b))):=fun a b=>B42 g a b (by omega);obtain ⟨gn,es⟩:=g;simp only at hn hl hn12 hbe ⊢;subst hn;refine ACall.of_body Tryz.func145 rfl (by kernel_rfl) ?_;simp only [entry,Tryz.ntmps145,tG,A0j];refine zU ?_;refine zM Qv5 (zc @A3X (zc @A68 (zc @A1Z (zc @Yj.{0} Qv5)))) Qv5 Qv5 Qv5 (ed fun hp hpc=>?_);refine AWp.loopS (α:=Nat) 48 (fun k=>[(1,.c (.int .i64 (v:Int))),(2,.c (.ptr 0 0)),(5,.c (.ref 1 1 0 n n)),(6,.c (.int .i64 (k:Int)))]) (fun k=>[.box [.int .i64 (n:Int),.slice (A0f es) .none],.box (bC (A1w es n v k))]) (fun k=>k≤n) (fun k=>n-k) (0) (hk:=Weak.headL 2 48 [1,2,5,6] zW) (h0:=?_) (round:=fun k hI=>?_)
 ·exact Xj _
 ·have hk:k≤n:=hI;clear hI;by_cases hlt:k<n
  ·have hltI:(k:Int)<n:=by omega
   have hN:A1w es n v (k+1)=A7R es n (A1w es n v k):=A0T _ _ _;have hlen:=A54 es n v k;generalize A1w es n v k=R at*;refine zR (zc @hltI Qv5) Qv5 Qv5 ?_;refine AWp.loopS (α:=Nat) 48 (fun a=>[(1,.c (.int .i64 (v:Int))),(2,.c (.ptr 0 0)),(5,.c (.ref 1 1 0 n n)),(6,.c (.int .i64 (k:Int))),(7,.c (.int .i64 (a:Int)))]) (fun a=>[.box [.int .i64 (n:Int),.slice (A0f es) .none],.box (bC ((List.range a).foldl (fun R a=>rRow es n a R) R))]) (fun a=>a≤n) (fun a=>n-a) (0) (hk:=Weak.headL 2 48 [1,2,5,6,7] zW) (h0:=?_) (round:=fun a hI=>?_)
   ·exact Xj _
   ·have ha:a≤n:=hI;clear hI;by_cases hlta:a<n
    ·have hltaI:(a:Int)<n:=by omega
     have hA:(List.range (a+1)).foldl (fun R a=>rRow es n a R) R=rRow es n a ((List.range a).foldl (fun R a=>rRow es n a R) R):=A0T _ _ _;have hlen2:((List.range a).foldl (fun R a=>rRow es n a R) R).length=n:=by rw [A3l (fun R a=>B5N es n a R),hlen]
     generalize (List.range a).foldl (fun R a=>rRow es n a R) R=S at*;refine zR (zc @hltaI Qv5) Qv5 Qv5 ?_;refine AWp.loopS (α:=Nat) 48 (fun b=>[(1,.c (.int .i64 (v:Int))),(2,.c (.ptr 0 0)),(5,.c (.ref 1 1 0 n n)),(6,.c (.int .i64 (k:Int))),(7,.c (.int .i64 (a:Int))),(8,.c (.int .i64 (b:Int)))]) (fun b=>[.box [.int .i64 (n:Int),.slice (A0f es) .none],.box (bC ((List.range b).foldl (A3Y es a) S))]) (fun b=>b≤n) (fun b=>n-b) (0) (hk:=Weak.headL 2 48 [1,2,5,6,7,8] zW) (h0:=?_) (round:=fun b hI=>?_)
     ·exact Xj _
     ·have hb:b≤n:=hI;clear hI;by_cases hltb:b<n
      ·have hltbI:(b:Int)<n:=by omega
       have hB:(List.range (b+1)).foldl (A3Y es a) S=A3Y es a ((List.range b).foldl (A3Y es a) S) b:=A0T _ _ _;have hlen3:((List.range b).foldl (A3Y es a) S).length=n:=by rw [A3l (A69 es a),hlen2]
       generalize (List.range b).foldl (A3Y es a) S=T at*;obtain ⟨x,hx⟩:=A8r hlen3 hlta;have hd:=B43 hx;have hst:=B90 (es:=es) (b:=b) hx;have hbb:=hbe a b;have hg:=B0E hx;generalize A3I es (min (a:Int) b) (max (a:Int) b)=c at*;cases x with
       | true=>
        by_cases hcp:0<c
        ·rw [if_pos ⟨rfl,hcp⟩] at hst;rw [hst] at hB;refine zR (zc @hltbI (zc @hd (zc @hg (zc @hcp (zc @A1Z (zc @hlen3 (zc @A68 Qv5))))))) (zc hbb Qv5) Qv5 ?_;refine ⟨b+1,Weak.headF 2 48 [1,2,5,6,7,8] (zc @hB Qv5) zW,?_,?_⟩
         ·exact hltb
         ·omega
        ·rw [if_neg (by simp [hcp])] at hst;rw [hst] at hB;refine zR (zc @hltbI (zc @hd (zc @hg (zc @hcp (zc @A1Z (zc @hlen3 Qv5)))))) (zc hbb Qv5) Qv5 ?_;refine ⟨b+1,Weak.headF 2 48 [1,2,5,6,7,8] (zc @hB Qv5) zW,?_,?_⟩
         ·exact hltb
         ·omega
       | false=>
        rw [if_neg (by simp)] at hst;rw [hst] at hB;refine zR (zc @hltbI (zc @hd (zc @hg (zc @A1Z (zc @hlen3 Qv5))))) Qv5 Qv5 ?_;refine ⟨b+1,Weak.headF 2 48 [1,2,5,6,7,8] (zc @hB Qv5) zW,?_,?_⟩
        ·exact hltb
        ·omega
      ·have eb:b=n:=by omega
       subst eb;have hnl: ¬((b:Int)<b):=by omega
       have hA':(List.range (a+1)).foldl (fun R a=>rRow es b a R) R=(List.range b).foldl (A3Y es a) S:=hA;refine zR (zc @hnl Qv5) Qv5 Qv5 ?_;refine ⟨a+1,Weak.headF 2 48 [1,2,5,6,7] (zc @hA' Qv5) zW,?_,?_⟩
       ·exact hlta
       ·omega
    ·have ea:a=n:=by omega
     subst ea;have hnl: ¬((a:Int)<a):=by omega
     have hN':A1w es a v (k+1)=(List.range a).foldl (fun R b=>rRow es a b R) R:=hN;refine zR (zc @hnl Qv5) Qv5 Qv5 ?_;refine ⟨k+1,Weak.headF 2 48 [1,2,5,6] (zc @hN' Qv5) zW,?_,?_⟩
     ·exact hlt
     ·omega
  ·have ek:k=n:=by omega
   subst ek;have hnl: ¬((k:Int)<k):=by omega
   have hlen:=A54 es k v k;refine zR (zc @hnl Qv5) Qv5 Qv5 ?_;have hR:=C6C hlen (H:=[Blk.box [.int .i64 (k:Int),.slice (A0f es) .none],Blk.box (bC (A1w es k v k))]) (id:=1) rfl;simp [A0s,A0r,Tryz.results145,A0o,A0p,toT,B0D,A9s,hR]
end Go.Proofs.YtdbdfkohpjefjaaGreat
