/- A part of the proof. -/
import Derived.Test.YtdbdfkohpjefjaaGreatPart01
import Derived.Test.YtdbdfkohpjefjaaGreatPart03
set_option linter.all false
set_option maxHeartbeats 4000000
set_option maxRecDepth 100000
namespace Go.Proofs.YtdbdfkohpjefjaaGreat
section
open Go.Sp Go.RowKit
end
open Go.Sp
def A0l (l:List Int):List (List Tree):=l.map fun x=>[.int .i64 x]
def A0k (l:List Int):TVal:= .t (.slice (A0l l))
attribute [go_sem] A0k
def A0e (l:List Int):(A0l l).length=l.length:=by simp [A0l]
variable {i:Nat} {x:Int}
def A0t {l:List Int} (h:l[i]? =some x):(A0l l)[i]? =some [.int .i64 x]:=by simp [A0l,h]
def A1c {l:List Int} {r:List Tree} (h:r∈A0l l):r.length=1:=by
 obtain ⟨x,_,rfl⟩:=QY.1 h; rfl
def A2w (l:List Int) (a:Int):A0l l++[[.int .i64 a]]=A0l (l++[a]):=by simp [A0l]
def C4H (g:G) (hl:g.es.length<2^30):ACall Tryz.prog 197 [tG g] (.tup [A0j (if checkG g≠0 then 0 else (endsL g.es).length),A0j (checkG g)]):=by
 have h:=B4r g hl;by_cases hc:checkG g≠0
 ·rw [if_pos hc] at h ⊢;refine ACall.of_body Tryz.func197 rfl (by kernel_rfl) ?_;simp only [entry,Tryz.ntmps197,tG];refine zU ?_;refine zR Qv5 (zc h Qv5) Qv5 ?_;simp [A0s,A0r,Blk.cells,ty,Tryz.results197,A0o,A0p,toT,A0d,A0b,A0c,A0a,A0j]
 ·rw [if_neg hc] at h ⊢;refine ACall.of_body Tryz.func197 rfl (by kernel_rfl) ?_;simp only [entry,Tryz.ntmps197,tG];refine zU ?_;refine zR (zc @A0z Qv5) (zc h Qv5) Qv5 ?_;have e:checkG g=0:=by omega
  simp [A0s,A0r,Blk.cells,ty,Tryz.results197,A0o,A0p,toT,A0d,A0b,A0c,A0a,A0j,e]
def A1A:List Int->Int->Int
 | [],_=> -1
 | x::xs,v=>if x=v then 0 else if A1A xs v<0 then -1 else A1A xs v+1
def B4u (l:List Int) (v:Int): -1≤A1A l v:=by
 induction l with
 | nil=>simp [A1A]
 | cons x xs ih=>simp only [A1A]; (repeat' split)<;>omega
def B2U {l:List Int} {v:Int}: ∀{k:Nat},(∀j,j<k-> ∀x,l[j]? =some x->x≠v)->k≤l.length->A1A l v=if A1A (l.drop k) v<0 then -1 else A1A (l.drop k) v+k:=by
 induction l with
 | nil=>intro k _ hk; simp [A1A]
 | cons x xs ih=>
  intro k h hk;cases k with
  | zero=>have:=B4u (x::xs) v; simp only [Yq,Int.natCast_zero]; split<;>omega
  | succ k=>
   have h0:=h 0 (by omega) x rfl;have:=ih (k:=k) (fun j hj y hy=>h (j+1) (by omega) y (by simpa using hy)) (by simpa using hk);simp only [A1A,Zy,if_neg h0,this];have h1:=B4u (xs.drop k) v
   (repeat' split)<;>omega
def B5H {l:List Int} {v:Int} {k:Nat} (h: ∀j,j<k-> ∀x,l[j]? =some x->x≠v) (hk:k<l.length) (e:l[k]=v):A1A l v=k:=by
 rw [B2U h (by omega),Zk hk,A1A,if_pos e]; simp
def B9i {l:List Int} {v:Int} (h: ∀j,j<l.length-> ∀x,l[j]? =some x->x≠v):A1A l v= -1:=by
 rw [B2U h (Qk _),Qq9]; simp [A1A]
def B5I (l:List Int) (v:Int) (hl:l.length<2^40):ACall Tryz.prog 87 [A0k l,A0j v] (A0j (A1A l v)):=by
 refine ACall.of_body Tryz.func87 rfl (by kernel_rfl) ?_;simp only [entry,Tryz.ntmps87,A0k,A0j];refine zU ?_;refine zR (zc @A0e Qv5) Qv5 Qv5 ?_;refine AWp.loopS (α:=Nat) 19 (fun k=>[(0,.c (.slice (A0l l) .none)),(1,.c (.int .i64 v)),(7,.c (.int .i64 l.length)),(8,.c (.int .i64 (k:Int)))]) (fun k=>[]) (fun k=>k≤l.length∧ ∀j,j<k-> ∀x,l[j]? =some x->x≠v) (fun k=>l.length-k) (0) (hk:=Weak.headL 0 19 [0,1,7,8] zW) (h0:=?_) (round:=fun k hI=>?_)
 ·exact ⟨Xj _,fun j hj=>by omega⟩
 ·obtain ⟨hk,hx⟩:=hI;by_cases hlt:k<l.length
  ·have e1:=A0t (Qq hlt);refine zM Qv5 (zc @e1 (zc @Yx Qv5)) Qv5 Qv5 Qv5 (zc (ed fun hp hpc=>?_) (ed fun hp hpc=>?_))
   ·have hv:A1A l v=k:=B5H hx hlt (by omega);simp [A0s,A0r,Blk.cells,ty,Tryz.results87,A0o,A0p,toT,A0d,A0b,A0c,A0a,A0j,hv]
   ·refine ⟨k+1,Weak.headN 0 19 [0,1,7,8] zW,?_,?_⟩
    ·refine ⟨hlt,fun j hj x hjx=> ?_⟩;by_cases hjk:j=k
     ·subst hjk; rw [Qq hlt] at hjx; cases hjx; omega
     ·exact hx j (by omega) x hjx
    ·omega
  ·have hv:A1A l v= -1:=B9i (fun j hj=>hx j (by omega));refine zR (zc @Yx Qv5) Qv5 Qv5 ?_;simp [A0s,A0r,Blk.cells,ty,Tryz.results87,A0o,A0p,toT,A0d,A0b,A0c,A0a,A0j,hv]
def A8p (l:List Int) (v:Int):0≤A1A l v↔v∈l:=by
 induction l with
 | nil=>simp [A1A]
 | cons x xs ih=>
  simp only [A1A,QV];have h1:=B4u xs v;by_cases h:x=v
  ·simp [h]
  ·rw [if_neg h];have: ¬v=x:=fun e=>h e.symm;simp only [this,false_or,<-ih];split<;>omega
def A5X (l:List Int) (v:Int) (hl:l.length<2^40):ACall Tryz.prog 39 [A0k l,A0j v] (A0q (decide (v∈l))):=by
 have e:=A8p l v;refine ACall.of_body Tryz.func39 rfl (by kernel_rfl) ?_;simp only [entry,Tryz.ntmps39,A0k,A0j];refine zU ?_;refine zR Qv5 (zc (B5I l v hl) Qv5) Qv5 ?_;simp [A0s,A0r,Blk.cells,ty,Tryz.results39,A0o,A0p,toT,A0d,A0b,A0c,A0a,A0q,e]
def B5J (l m:List Int) (hl:l.length<2^40) (hm:m.length<2^40):ACall Tryz.prog 27 [A0k l,A0k m] (A0q (decide (l=m))):=by
 refine ACall.of_body Tryz.func27 rfl (by kernel_rfl) ?_;simp only [entry,Tryz.ntmps27,A0k];refine zU ?_;refine zM Qv5 (zc @A0e Qv5) Qv5 Qv5 Qv5 (zc (ed fun hp hpc=>?_) (ed fun hp hpc=>?_))
 ·have e: ¬l=m:=fun e=>by subst e; omega
  simp [A0s,A0r,Blk.cells,ty,Tryz.results27,A0o,A0p,toT,A0d,A0b,A0c,A0a,A0q,e]
 ·have hlm:l.length=m.length:=by omega
  refine AWp.loopS (α:=Nat) 26 (fun k=>[(0,.c (.slice (A0l l) .none)),(1,.c (.slice (A0l m) .none)),(12,.c (.int .i64 l.length)),(13,.c (.int .i64 (k:Int)))]) (fun k=>[]) (fun k=>k≤l.length∧ ∀j,j<k->l[j]? =m[j]?) (fun k=>l.length-k) (0) (hk:=Weak.headL 0 26 [0,1,12,13] zW) (h0:=?_) (round:=fun k hI=>?_)
  ·exact ⟨Xj _,fun j hj=>by omega⟩
  ·obtain ⟨hk,hx⟩:=hI;by_cases hlt:k<l.length
   ·have hlt2:k<m.length:=by omega
    have e1:=A0t (Qq hlt);have e2:=A0t (Qq hlt2);refine zM Qv5 (zc @e1 (zc @e2 (zc @Yx Qv5))) Qv5 Qv5 Qv5 (zc (ed fun hp hpc=>?_) (ed fun hp hpc=>?_))
    ·have e: ¬l=m:=fun e=>by subst e; omega
     simp [A0s,A0r,Blk.cells,ty,Tryz.results27,A0o,A0p,toT,A0d,A0b,A0c,A0a,A0q,e]
    ·refine ⟨k+1,Weak.headN 0 26 [0,1,12,13] zW,?_,?_⟩
     ·refine ⟨hlt,fun j hj=> ?_⟩;by_cases hjk:j=k
      ·subst hjk; rw [Qq hlt,Qq hlt2]; congr 1
      ·exact hx j (by omega)
     ·omega
   ·have e:l=m:=Zq fun j=>by
     by_cases hj:j<l.length
     ·exact hx j (by omega)
     ·rw [Xq (by omega),Xq (by omega)]
    refine zR (zc @Yx Qv5) Qv5 Qv5 ?_;simp [A0s,A0r,Blk.cells,ty,Tryz.results27,A0o,A0p,toT,A0d,A0b,A0c,A0a,A0q,e]
def iC (B:List Int):List ACell:=B.map fun x=>ACell.int .i64 x
def A12 (B:List Int):(iC B).length=B.length:=by simp [iC]
def A9j (B:List Int) (i:Nat) (x:Int):(iC B).set i (.int .i64 x)=iC (B.set i x):=by simp [iC,Qj4]
def A1R (n:Nat):A7f [ACell.int .i64 0] n=iC (List.replicate n 0):=by simp [A7f,iC]
def A65 (B:List Int):(iC B).mapM A0a=some (B.map fun x=>Tree.int .i64 x):=by
 induction B with
 | nil=>rfl
 | cons x xs ih=>simp only [iC,XY,JY] at ih ⊢; rw [ih]; rfl
def A4Z (B:List Int) (i:Nat) (r:List Tree) (m:Nat) (x:Tree) (h1:(A0l B)[i]? =some r) (h2:r[m]? =some x):(B.map fun x=>Tree.int .i64 x)[i*1+m]? =some x:=by
 simp only [A0l,QQ] at h1;cases hb:B[i]? with
 | none=>rw [hb] at h1; simp at h1
 | some b=>
  rw [hb] at h1;simp at h1;subst h1;cases m with
  | zero=>simp at h2; simp [hb,h2]
  | succ m=>simp at h2
def A5K {B:List Int} (h:B[i]? =some x):(iC B)[i]? =some (.int .i64 x):=by simp [iC,h]
def A0V {m:Nat} {B:List Int}:blkIn m (.box (iC B)):=by
 intro c hc;obtain ⟨p,_,rfl⟩:=QY.1 hc;exact Qv3
def B07 (l:List Int) (i:Nat):(A0l l).take i=A0l (l.take i):=by simp [A0l]
def A0n (ls:List (List Int)):List (List Tree):=ls.map fun l=>[Tree.slice (A0l l)]
def A05 (ls:List (List Int)):TVal:= .t (.slice (A0n ls))
attribute [go_sem] A05
def A0i (ls:List (List Int)):(A0n ls).length=ls.length:=by simp [A0n]
variable {ls:List (List Int)}
def A0D {l:List Int} (h:ls[i]? =some l):(A0n ls)[i]? =some [Tree.slice (A0l l)]:=by simp [A0n,h]
def A1F {ls:List (List Int)} {r:List Tree} (h:r∈A0n ls):r.length=1:=by
 obtain ⟨x,_,rfl⟩:=QY.1 h; rfl
def A2x (ls:List (List Int)) (a:List Int):A0n ls++[[Tree.slice (A0l a)]]=A0n (ls++[a]):=by simp [A0n]
def C3V (ls:List (List Int)):(ls.map A0l).map (fun r=>[Tree.slice r])=A0n ls:=by simp [A0n]
def chI (b:Nat) (ls:List (List Int)):List ACell:=chC b (ls.map A0l)
def chJ (ls:List (List Int)):List Blk:=chB (ls.map A0l)
def A2y (b:Nat) (ls:List (List Int)):(chI b ls).length=ls.length:=by simp [chI,B8H]
def A9k (ls:List (List Int)):(chJ ls).length=ls.length:=by simp [chJ,C49]
def B9j {b i:Nat} {ls:List (List Int)} {l:List Int} (h:ls[i]? =some l):(chI b ls)[i]? =some (.slice (A0l l) (.chain (i+b))):=B4k (by simp [h])
def B5K {b i:Nat} {ls:List (List Int)} {l:List Int} (h:ls[i]? =some l):(chI b ls).drop i= .slice (A0l l) (.chain (i+b))::(chI b ls).drop (i+1):=C2k (by simp [h])
def B9k (b i:Nat) (ls:List (List Int)) (l:List Int):(chI b ls).set i (.slice (A0l l) (.chain (i+b)))=chI b (ls.set i l):=by unfold chI; rw [B8I,Qj4]
def B9l {l:List Int} (h:ls[i]? =some l):(chJ ls)[i]? =some (.chain l.length 1):=by
 have:=C4A (f:=ls.map A0l) (i:=i) (r:=A0l l) (by simp [h]);rwa [A0e] at this
def B9m (i:Nat) (ls:List (List Int)) (l:List Int) {n:Nat} (hn:n=l.length):(chJ ls).set i (.chain n 1)=chJ (ls.set i l):=by
 unfold chJ; rw [C4B _ i (A0l l) (by rw [A0e]; exact hn),Qj4]
def B08 {m b:Nat} (h:b+ls.length≤m):blkIn m (.box (chI b ls)):=B8J (by simpa using h)
def A2m {m:Nat}:A1N m (chJ ls):=C6u
def A66 {n:Nat} (h:ls.length≤n):(chJ ls).take n=chJ ls:=Zw (by rw [A9k]; exact h)
def C4I (b n:Nat):chC b (List.replicate n [])=chI b (List.replicate n []):=by simp [chI,A0l]
def C4J (n:Nat):chB (List.replicate n [])=chJ (List.replicate n []):=by simp [chJ,A0l]
def B9n (n:Nat):A7f [ACell.nils] n=List.replicate n .nils:=by simp [A7f]
structure R where
 n:Int
 es:List E
 ar:List (List Int)
def R.g (r:R):G:=⟨r.n,r.es⟩
def tR (r:R):TVal:= .agg [.int .i64 r.n,.slice (A0f r.es),.slice (A0n r.ar)]
def B9o (N:Nat) (g:Nat->Int):List Int:=(List.range N).map g
def A8q (N:Nat) (g:Nat->Int):(B9o N g).length=N:=by simp [B9o]
def B1A {N i:Nat} (g:Nat->Int) (h:i<N):(B9o N g)[i]? =some (g i):=by simp [B9o,h]
def B09 {N:Nat} {g f:Nat->Int} (h: ∀i,i<N->g i=f i):B9o N g=B9o N f:=Jw fun i hi=>h i (Xk.1 hi)
def C23 {N i:Nat} (g:Nat->Int) (x:Int) (hi:i<N):(B9o N g).set i x=B9o N (fun j=>if j=i then x else g j):=by
 apply Zq;intro k;by_cases hk:k<N
 ·rw [B1A _ hk];by_cases e:i=k
  ·subst e; rw [QX (by rw [A8q]; exact hi)]; simp
  ·rw [Qy e,B1A _ hk,if_neg (by omega)]
 ·rw [Xq (by rw [Yz,A8q]; omega),Xq (by rw [A8q]; omega)]
def atL (L:List (Int×Int)) (h:Nat):Int:=if h%2=0 then (L.getD (h / 2) (0,0)).1 else (L.getD (h / 2) (0,0)).2
def ownL (L:List (Int×Int)) (v:Int) (k:Nat):List Int:=((List.range k).filter fun h=>decide (atL L h=v)).map fun h:Nat=>(h:Int)
def A1d (L:List (Int×Int)) (n k:Nat):List (List Int):=(List.range n).map fun v:Nat=>ownL L (v:Int) k
def B9p (L:List (Int×Int)) (v:Int) (k:Nat):ownL L v (k+1)=if atL L k=v then ownL L v k++[(k:Int)] else ownL L v k:=by
 unfold ownL;rw [WQ,JV];by_cases h:atL L k=v<;>simp [h]
variable {L:List (Int×Int)}
def A1S {v:Int} {k:Nat}:x∈ownL L v k↔0≤x∧x<k∧atL L x.toNat=v:=by
 unfold ownL;rw [QY];constructor
 ·rintro ⟨h,hm,rfl⟩;rw [ZV,Xk,decide_eq_true_eq] at hm;exact ⟨by omega,by omega,by simpa using hm.2⟩
 ·rintro ⟨h1,h2,h3⟩;refine ⟨x.toNat,?_,by omega⟩;rw [ZV,Xk,decide_eq_true_eq];exact ⟨by omega,h3⟩
def B4v (L:List (Int×Int)) (v:Int) (k:Nat):(ownL L v k).Pairwise (·< ·):=by
 unfold ownL;rw [JQ];exact (List.pairwise_lt_range.filter _).imp fun h=>by omega
def B1B (L:List (Int×Int)) (v:Int) (k:Nat):(ownL L v k).length≤k:=by
 unfold ownL;rw [XW];exact Yw (WW _ _) (by simp)
def A0A (L:List (Int×Int)) (n k:Nat):(A1d L n k).length=n:=by simp [A1d]
def A3j {L:List (Int×Int)} {n k v:Nat} (hv:v<n):(A1d L n k)[v]? =some (ownL L (v:Int) k):=by simp [A1d,hv]
def B2V (L:List (Int×Int)) (n:Nat):List.replicate n []=A1d L n 0:=by
 rw [A1d,eq_comm,List.eq_replicate_iff];exact ⟨by simp,fun x hx=>by obtain ⟨_,_,rfl⟩:=QY.1 hx; rfl⟩
def B2W {n k v:Nat} (hv:v<n) (h:atL L k=v):A1d L n (k+1)=(A1d L n k).set v (ownL L (v:Int) k++[(k:Int)]):=by
 apply Zq;intro i;by_cases hi:i<n
 ·rw [A3j hi,B9p];by_cases e:v=i
  ·subst e;rw [QX (by rw [A0A]; exact hv),if_pos h]
  ·rw [Qy e,A3j hi,if_neg (by omega)]
 ·rw [Xq (by rw [A0A]; omega),Xq (by rw [Yz,A0A]; omega)]
def A5Y (own:List Int):List Int->List Int->Int
 | _,[]=>0
 | pre,h::t=>if h∈own then (if h∈pre then 7 else A5Y own (pre++[h]) t) else 2
def A2n (l own:List Int):Int:=
 if l.length≠own.length then 8 else if A5Y own [] l≠0 then A5Y own [] l else if l≠[]∧l.getD 0 0≠own.getD 0 0 then 9 else 0
def A9Y (L:List (Int×Int)) (N:Nat):Nat->List (List Int)->Int
 | _,[]=>0
 | v,l::ar=>if A2n l (ownL L (v:Int) N)≠0 then A2n l (ownL L (v:Int) N) else A9Y L N (v+1) ar
def B0A {own:List Int}: ∀{pre l:List Int},A5Y own pre l=0->(∀x,x∈l->x∈own)∧l.Nodup∧ ∀x,x∈l->x∉pre
 | _,[],_=>⟨fun x hx=>(by cases hx),List.nodup_nil,fun x hx=>(by cases hx)⟩
 | pre,h::t,e=>by
  simp only [A5Y] at e;split at e
  ·rename_i h1;split at e
   ·omega
   ·rename_i h2;obtain ⟨q1,q2,q3⟩:=B0A e;refine ⟨fun x hx=> ?_,Qq8.2 ⟨fun hm=>q3 h hm (by simp),q2⟩,fun x hx=> ?_⟩
    ·rcases QV.1 hx with rfl | hx
     ·exact h1
     ·exact q1 x hx
    ·rcases QV.1 hx with rfl | hx
     ·exact h2
     ·intro hp; exact q3 x hx (by simp [hp])
  ·omega
structure LOk (l own:List Int):Prop where
 nd:l.Nodup
 sub: ∀x,x∈l->x∈own
 sup: ∀x,x∈own->x∈l
 len:l.length=own.length
 hd:l=[]∨l.getD 0 0=own.getD 0 0
def C65 {l own:List Int} (h1:l.Nodup) (h2: ∀x,x∈l->x∈own) (h3:l.length=own.length): ∀x,x∈own->x∈l:=by
 intro x hx;apply QJ;intro hn
 have:=YZ (l₁:=x::l) (l₂:=own) (Qq8.2 ⟨hn,h1⟩) (fun y hy=>by
  rcases QV.1 hy with rfl | hy
  ·exact hx
  ·exact h2 y hy)
 simp at this; omega
def B4w {l own:List Int} (h:A2n l own=0):LOk l own:=by
 unfold A2n at h;split at h
 ·omega
 ·rename_i h1;split at h
  ·omega
  ·rename_i h2;split at h
   ·omega
   ·rename_i h3;simp only [ne_eq,Decidable.not_not] at h1 h2;obtain ⟨q1,q2,_⟩:=B0A h2;refine ⟨q2,q1,C65 q2 q1 h1,h1,?_⟩;by_cases e:l=[]
    ·exact .inl e
    ·exact .inr (QJ fun hn=>h3 ⟨e,hn⟩)
def B0B {N:Nat}: ∀{v:Nat} {ar:List (List Int)},A9Y L N v ar=0-> ∀i l,ar[i]? =some l->LOk l (ownL L ((v+i:Nat):Int) N)
 | v,[],_,i,l,hl=>by simp at hl
 | v,x::ar,h,i,l,hl=>by
  simp only [A9Y] at h;split at h
  ·omega
  ·rename_i h1;simp only [ne_eq,Decidable.not_not] at h1;cases i with
   | zero=>simp at hl; subst hl; exact B4w h1
   | succ i=>
    have:=B0B h i l (by simpa using hl);rwa [show v+1+i=v+(i+1) by omega] at this
def oppH (h:Nat):Nat:=h+1-2*(h%2)
def A9l (l:List Int) (x:Int):Int:=l.getD ((l.idxOf x+1)%l.length) 0
def nextR (L:List (Int×Int)) (ar:List (List Int)) (h:Nat):Int:=A9l (ar.getD (atL L h).toNat []) (h:Int)
def fR (L:List (Int×Int)) (ar:List (List Int)) (h:Nat):Nat:=(nextR L ar (oppH h)).toNat
def B5L {α:Type} {l:List α} (hn:l.Nodup) {i j:Nat} (hi:i<l.length) (hj:j<l.length) (e:l[i]=l[j]):i=j:=by
 rw [List.Nodup,ZJ] at hn;rcases Qw3 i j with h | h | h
 ·exact absurd e (hn i j hi hj h)
 ·exact h
 ·exact absurd e.symm (hn j i hj hi h)
def A3A {l:List Int} (hx:x∈l):l.idxOf x<l.length∧l[l.idxOf x]? =some x:=by
 have h:=List.idxOf_lt_length_of_mem hx;exact ⟨h,by rw [Qq h,List.getElem_idxOf h]⟩
def B9q {l:List Int} (hx:x∈l):A9l l x∈l:=by
 have h:=(A3A hx).1;unfold A9l;rw [Qz,Qq (VZ _ (by omega))];exact Xw _
def B9r {l:List Int} (hn:l.Nodup) {x y:Int} (hx:x∈l) (hy:y∈l) (e:A9l l x=A9l l y):x=y:=by
 obtain ⟨h1,h2⟩:=A3A hx;obtain ⟨h3,h4⟩:=A3A hy;have m1:(l.idxOf x+1)%l.length<l.length:=VZ _ (by omega);have m2:(l.idxOf y+1)%l.length<l.length:=VZ _ (by omega);unfold A9l at e;rw [Qz,Qq m1,Qz,Qq m2] at e;simp only [Option.getD_some] at e;have e2:=B5L hn m1 m2 e;have key: ∀a b c:Nat,a<c->b<c->(a+1)%c=(b+1)%c->a=b:=fun a b c ha hb hab=>by
  by_cases q1:a+1=c
  ·by_cases q2:b+1=c
   ·omega
   ·rw [q1,Nat.mod_self,Vw (by omega)] at hab; omega
  ·by_cases q2:b+1=c
   ·rw [q2,Nat.mod_self,Vw (by omega)] at hab; omega
   ·rw [Vw (by omega),Vw (by omega)] at hab; omega
 have e3:=key _ _ _ h1 h3 e2;rw [<-Vv,<-h2,<-h4,e3]
def B2X (x:Int):ACall Tryz.prog 143 [A0j x] (A0q false):=by
 refine ACall.of_body Tryz.func143 rfl (by kernel_rfl) ?_;simp only [entry,Tryz.ntmps143,A0j];refine zU ?_;refine zR Qv5 Qv5 Qv5 ?_;simp [A0s,A0r,Blk.cells,ty,Tryz.results143,A0o,A0p,toT,A0d,A0b,A0c,A0a,A0q]
def A9m (x:Int):ACall Tryz.prog 199 [A0j x] (A0q false):=by
 refine ACall.of_body Tryz.func199 rfl (by kernel_rfl) ?_;simp only [entry,Tryz.ntmps199,A0j];refine zU ?_;refine zR Qv5 Qv5 Qv5 ?_;simp [A0s,A0r,Blk.cells,ty,Tryz.results199,A0o,A0p,toT,A0d,A0b,A0c,A0a,A0q]
def C4K (x y:Int):ACall Tryz.prog 198 [A0j x,A0j y] (A0q (decide (x<y))):=by
 refine ACall.of_body Tryz.func198 rfl (by kernel_rfl) ?_;simp only [entry,Tryz.ntmps198,A0j];refine zU ?_;refine zR Qv5 (zc (B2X x) (zc (B2X y) Qv5)) Qv5 ?_;simp [A0s,A0r,Blk.cells,ty,Tryz.results198,A0o,A0p,toT,A0d,A0b,A0c,A0a,A0q]
def C4L (x:Int):x.fdiv (2^min 1 IntKind.u64.bits)=x / 2:=by
 rw [show (2:Int)^min 1 IntKind.u64.bits=2 by decide];exact Int.fdiv_eq_ediv_of_nonneg _ (by omega)
def C66 (x:Int):x.fdiv (2^min 1 64)=x / 2:=C4L x
def loI:List Int->Int->Nat
 | [],_=>0
 | y::ys,x=>if y<x then loI ys x+1 else 0
def C3W: ∀{l:List Int} {x:Int} {i:Nat},i≤l.length->(∀k (h:k<l.length),k<i->l[k]<x)->(∀h:i<l.length,¬l[i]<x)->loI l x=i
 | [],x,i,h,_,_=>by simp at h; simp [loI,h]
 | y::ys,x,i,h,h1,h2=>by
  simp only [loI];cases i with
  | zero=>exact if_neg (h2 (by simp))
  | succ i=>
   rw [if_pos (show y<x from h1 0 (by simp) (by omega)),C3W (i:=i) (by simpa using h) (fun k hk hki=>h1 (k+1) (by simpa using hk) (by omega)) (fun hi=>h2 (by simpa using hi))]
def C4M (l:List Int) (x:Int) (hs:l.Pairwise (·< ·)) (hl:l.length<2^40):
  ACall Tryz.prog 182 [A0k l,A0j x] (.tup [A0j (loI l x),A0q (decide (x∈l))]):=by
 rw [ZJ] at hs;refine ACall.of_body Tryz.func182 rfl (by kernel_rfl) ?_;simp only [entry,Tryz.ntmps182,A0k,A0j];refine zU ?_;refine zR (zc @A0e Qv5) Qv5 Qv5 ?_;refine AWp.loopS (α:=(Nat×Nat)) 54 (fun s=>[(0,.c (.slice (A0l l) .none)),(1,.c (.int .i64 x)),(6,.c (.int .i64 l.length)),(7,.c (.int .i64 (s.1:Int))),(8,.c (.int .i64 (s.2:Int)))]) (fun s=>[]) (fun s=>s.1≤s.2∧s.2≤l.length∧(∀k (h:k<l.length),k<s.1->l[k]<x)∧(∀k (h:k<l.length),s.2≤k-> ¬l[k]<x)) (fun s=>s.2-s.1) ((0,l.length)) (hk:=Weak.headL 0 54 [0,1,6,7,8] zW) (h0:=?_) (round:=fun s hI=>?_)
 ·exact ⟨Xj _,Qk _,fun k h hk=>absurd hk (Nat.not_lt_zero _),fun k h hk=>by omega⟩
 ·obtain ⟨i,j⟩:=s;obtain ⟨hij,hj,h1,h2⟩:=hI;simp only at hij hj h1 h2 ⊢;by_cases hlt:i<j
  ·have hd:((i:Int)+(j:Int)) / 2=(((i+j) / 2:Nat):Int):=by omega
   have hm1:i≤(i+j) / 2:=by omega
   have hm2:(i+j) / 2<j:=by omega
   generalize (i+j) / 2=m at*;have hml:m<l.length:=by omega
   have e1:=A0t (Qq hml);generalize hy:l[m]=y at*;have hcall:=C4K y x;by_cases hlt2:y<x
   ·rw [decide_eq_true hlt2] at hcall;refine zR (zc @e1 (zc @C4L (zc @C66 (zc @hd (zc @Yx (zc @A0e Qv5)))))) (zc hcall Qv5) Qv5 ?_;refine ⟨(m+1,j),Weak.headN 0 54 [0,1,6,7,8] zW,?_,?_⟩
    ·refine ⟨hm2,hj,fun k hk hki=> ?_,h2⟩;by_cases e:k=m
     ·subst e; rw [hy]; exact hlt2
     ·have:=hs k m hk hml (by omega);omega
    ·simp only; omega
   ·rw [decide_eq_false hlt2] at hcall;refine zR (zc @e1 (zc @C4L (zc @C66 (zc @hd (zc @Yx (zc @A0e Qv5)))))) (zc hcall Qv5) Qv5 ?_;refine ⟨(i,m),Weak.headN 0 54 [0,1,6,7,8] zW,?_,?_⟩
    ·refine ⟨hm1,by omega,h1,fun k hk hki=> ?_⟩;by_cases e:k=m
     ·subst e; rw [hy]; exact hlt2
     ·have:=hs m k hml hk (by omega);omega
    ·simp only; omega
  ·have eij:i=j:=by omega
   subst eij;have hlo:loI l x=i:=C3W hj h1 (fun h=>h2 i h (Qk _));rw [hlo];by_cases hil:i<l.length
   ·have e0:=Qq hil;have e1:=A0t e0;have hf:x∈l↔l[i]=x:=by
     constructor
     ·intro hm;obtain ⟨k,hk,e⟩:=Jk.1 hm;rcases Qw3 k i with h | h | h
      ·have:=h1 k hk h; omega
      ·subst h; exact e
      ·have:=hs i k hil hk h; have:=h2 i hil (Qk _); omega
     ·intro e; rw [<-e]; exact Xw hil
    generalize hy:l[i]=y at*;rw [decide_eq_decide.2 hf];by_cases hxy:y=x
    ·subst hxy;refine zR (zc @e1 (zc @Yx (zc @A0e (zc @hil Qv5)))) (zc (A9m y) Qv5) Qv5 ?_;simp [A0s,A0r,Blk.cells,ty,Tryz.results182,A0o,A0p,toT,A0d,A0b,A0c,A0a,A0j,A0q]
    ·rw [decide_eq_false hxy];refine zR (zc @e1 (zc @Yx (zc @A0e (zc @hil (zc @hxy Qv5))))) (zc (A9m y) (zc (A9m x) Qv5)) Qv5 ?_;simp [A0s,A0r,Blk.cells,ty,Tryz.results182,A0o,A0p,toT,A0d,A0b,A0c,A0a,A0j,A0q]
   ·have hf: ¬x∈l:=fun hm=>by
     obtain ⟨k,hk,e⟩:=Jk.1 hm;have:=h1 k hk (by omega); omega
    rw [decide_eq_false hf];refine zR (zc @Yx (zc @A0e (zc @hil Qv5))) Qv5 Qv5 ?_;simp [A0s,A0r,Blk.cells,ty,Tryz.results182,A0o,A0p,toT,A0d,A0b,A0c,A0a,A0j,A0q]
def B7k {own pre t:List Int} {h:Int} (h1:h∈own) (h2:h∉pre):A5Y own pre (h::t)=A5Y own (pre++[h]) t:=by
 simp only [A5Y]; rw [if_pos h1,if_neg h2]
def C4N (l own:List Int) (hs:own.Pairwise (·< ·)) (hl:l.length<2^40) (ho:own.length<2^40):ACall Tryz.prog 154 [A0k l,A0k own] (A0j (A2n l own)):=by
 refine ACall.of_body Tryz.func154 rfl (by kernel_rfl) ?_;simp only [entry,Tryz.ntmps154,A0k];refine zU ?_;by_cases hlen:l.length=own.length
 case neg=>
  have hlI: ¬((l.length:Int)=own.length):=by omega
  have e:A2n l own=8:=by unfold A2n; exact if_pos hlen
  rw [e];refine zR (zc @A0e (zc @hlI Qv5)) Qv5 Qv5 ?_;simp [A0s,A0r,Blk.cells,ty,Tryz.results154,A0o,A0p,toT,A0d,A0b,A0c,A0a,A0j]
 have hlI:((l.length:Int)=own.length):=by omega
 refine zR (zc @A0e (zc @hlI Qv5)) Qv5 Qv5 ?_;refine AWp.loopS (α:=Nat) 47 (fun i=>[(0,.c (.slice (A0l l) .none)),(1,.c (.slice (A0l own) .none)),(14,.c (.slice (A0l l) .none)),(15,.c (.int .i64 (own.length:Int))),(16,.c (.int .i64 (i:Int)))]) (fun i=>[]) (fun i=>i≤l.length∧A5Y own [] l=A5Y own (l.take i) (l.drop i)) (fun i=>l.length-i) (0) (hk:=Weak.headL 0 47 [0,1,14,15,16] zW) (h0:=?_) (round:=fun i hI=>?_)
 ·exact ⟨Xj _,rfl⟩
 ·obtain ⟨hi,hI⟩:=hI;by_cases hlt:i<l.length
  ·have hltI:(i:Int)<own.length:=by omega
   have e0:=Qq hlt;have e1:=A0t e0;have hd:=Zk hlt;have htk:l.take (i+1)=l.take i++[l[i]]:=Xy hlt;generalize l[i]=x at*;have hB:=C4M own x hs ho;by_cases hm:x∈own
   case neg=>
    rw [decide_eq_false hm] at hB;have hg:A5Y own [] l=2:=by rw [hI,hd]; simp only [A5Y]; rw [if_neg hm]
    have e:A2n l own=2:=by unfold A2n; rw [if_neg (by omega),hg]; rfl
    rw [e];refine zR (zc @hltI (zc @A0e (zc @e1 Qv5))) (zc hB Qv5) Qv5 ?_;simp [A0s,A0r,Blk.cells,ty,Tryz.results154,A0o,A0p,toT,A0d,A0b,A0c,A0a,A0j]
   rw [decide_eq_true hm] at hB;have hC:=A5X (l.take i) x (by rw [Wk]; omega);by_cases hc:x∈l.take i
   ·have hg:A5Y own [] l=7:=by rw [hI,hd]; simp only [A5Y]; rw [if_pos hm,if_pos hc]
    have e:A2n l own=7:=by unfold A2n; rw [if_neg (by omega),hg]; rfl
    rw [e];rw [decide_eq_true hc] at hC;refine zR (zc @hltI (zc @A0e (zc @e1 (zc @B07 (zc @Yx (zc @hlt Qv5)))))) (zc hB (zc hC Qv5)) @A1c ?_;simp [A0s,A0r,Blk.cells,ty,Tryz.results154,A0o,A0p,toT,A0d,A0b,A0c,A0a,A0j]
   ·rw [decide_eq_false hc] at hC;refine zR (zc @hltI (zc @A0e (zc @e1 (zc @B07 (zc @Yx (zc @hlt Qv5)))))) (zc hB (zc hC Qv5)) @A1c ?_;refine ⟨i+1,Weak.headN 0 47 [0,1,14,15,16] zW,?_,?_⟩
    ·refine ⟨hlt,?_⟩;rw [hI,hd,B7k hm hc,<-htk]
    ·omega
  ·have ei:i=l.length:=by omega
   have hg:A5Y own [] l=0:=by rw [hI,ei,Qq9]; rfl
   have hnl: ¬((i:Int)<own.length):=by omega
   by_cases hne:l=[]
   ·have e:A2n l own=0:=by
     unfold A2n; rw [if_neg (by omega),if_neg (by omega),if_neg (fun h=>h.1 hne)]
    rw [e];subst hne;refine zR (zc @hnl (zc @A0e Qv5)) Qv5 Qv5 ?_;simp [A0s,A0r,Blk.cells,ty,Tryz.results154,A0o,A0p,toT,A0d,A0b,A0c,A0a,A0j]
   ·have hp:0<l.length:=Wy.2 hne;have hpo:0<own.length:=by omega
    have hpI:(0:Int)<own.length:=by omega
    have e1:=Qq hp;have e2:=Qq hpo;have r1:=A0t e1;have r2:=A0t e2;have d1:l.getD 0 0=l[0]:=by rw [Qz,e1]; rfl
    have d2:own.getD 0 0=own[0]:=by rw [Qz,e2]; rfl
    have e:A2n l own=if l[0]=own[0] then 0 else 9:=by
     unfold A2n;rw [if_neg (by omega),if_neg (by omega),d1,d2];by_cases h:l[0]=own[0]
     ·rw [if_pos h,if_neg (fun h2=>h2.2 h)]
     ·rw [if_neg h,if_pos ⟨hne,h⟩]
    rw [e];generalize l[0]=x at*;generalize own[0]=y at*;by_cases hxy:x=y
    ·rw [if_pos hxy];refine zR (zc @hnl (zc @A0e (zc @hlI (zc @hpI (zc @r1 (zc @r2 (zc @hxy (zc @Int.toNat_zero Qv5)))))))) Qv5 Qv5 ?_;simp [A0s,A0r,Blk.cells,ty,Tryz.results154,A0o,A0p,toT,A0d,A0b,A0c,A0a,A0j]
    ·rw [if_neg hxy];refine zR (zc @hnl (zc @A0e (zc @hlI (zc @hpI (zc @r1 (zc @r2 (zc @hxy (zc @Int.toNat_zero Qv5)))))))) Qv5 Qv5 ?_;simp [A0s,A0r,Blk.cells,ty,Tryz.results154,A0o,A0p,toT,A0d,A0b,A0c,A0a,A0j]
def C67 (h:Nat):Int.tdiv (h:Int) 2=((h / 2:Nat):Int):=rfl
def C68 (h:Nat):Int.tmod (h:Int) 2=((h%2:Nat):Int):=rfl
def C69 (L:List (Int×Int)) (h:Nat) (hh:h<2*L.length) (hl:L.length<2^30):ACall Tryz.prog 169 [A06 L,A0j h] (A0j (atL L h)):=by
 have e0:L[h / 2]? =some L[h / 2]:=Qq (by omega);have e1:=A28 e0;have ea:atL L h=if h%2=0 then L[h / 2].1 else L[h / 2].2:=by unfold atL; rw [Qz,e0]; rfl
 have hlt:((h / 2:Nat):Int)<L.length:=by omega
 rw [ea];generalize L[h / 2]=p at*;obtain ⟨a,b⟩:=p;refine ACall.of_body Tryz.func169 rfl (by kernel_rfl) ?_;simp only [entry,Tryz.ntmps169,A06,A0j];refine zU ?_;have hm:h%2=0∨h%2=1:=by omega
 rcases hm with hm | hm
 ·
  refine zR (zc @C67 (zc @C68 (zc @hm (zc @hlt (zc @A0z (zc @e1 Qv5)))))) Qv5 Qv5 ?_;simp [A0s,A0r,Blk.cells,ty,Tryz.results169,A0o,A0p,toT,A0d,A0b,A0c,A0a,A0j,hm]
 ·
  refine zR (zc @C67 (zc @C68 (zc @hm (zc @hlt (zc @A0z (zc @e1 Qv5)))))) Qv5 Qv5 ?_;simp [A0s,A0r,Blk.cells,ty,Tryz.results169,A0o,A0p,toT,A0d,A0b,A0c,A0a,A0j,hm]
@[simp] theorem C6g (L:List (Int×Int)) (n k:Nat):(chJ (A1d L n k)).take n=chJ (A1d L n k):=A66 (by rw [A0A]; exact Qk _)
def B2Y (L:List (Int×Int)) (n:Nat) (hn:n<2^20) (hl:L.length<2^20) (hr: ∀h,h<2*L.length->0≤atL L h∧atL L h<n):
  ACall Tryz.prog 132 [A0j n,A06 L] (A05 (A1d L n (2*L.length))):=by
 refine ACall.of_body Tryz.func132 rfl (by kernel_rfl) ?_;simp only [entry,Tryz.ntmps132,A06,A0j];refine zU ?_;refine zM Qv5 (zc @B9n (zc @A0z (zc @Yj.{0} Qv5))) Qv5 Qv5 Qv5 (ed fun hp hpc=>?_);refine AWp.weak (Weak.openBs 0 n (pre:=[]) rfl (Xj _)) ?_;simp only [List.length_cons,List.length_nil,List.set_cons_zero,List.nil_append,List.cons_append,XX,C4I,C4J,B2V L n];refine AWp.loopS (α:=Nat) 31 (fun k=>[(1,.c (.slice (A0U L) .none)),(5,.c (.ref 0 1 0 n n)),(11,.c (.int .i64 (2*(L.length:Int)))),(12,.c (.int .i64 (k:Int)))]) (fun k=>.box (chI 1 (A1d L n k))::chJ (A1d L n k)) (fun k=>k≤2*L.length) (fun k=>2*L.length-k) (0) (hk:=Weak.headL (n+1) 31 [1,5,11,12] (by (repeat' (first | exact A1K _ | exact A15 _ | exact A1p _ | refine Qv4 ?_ ?_ | refine A1y ?_ ?_ | refine A04 ?_ ?_ | refine A1e ?_ ?_ | exact Qv3 | exact B08 (by rw [A0A]; omega) | exact A2m | (show _<_; omega) | exact A1g (fun _=>Qv3) | (intro c hc; cases hc; done) | (intro c hc; simp only [QV,XJ,or_false] at hc; subst hc; first | exact Qv3 | exact B08 (by rw [A0A]; omega) | exact A2m | (show _<_; omega)) | (intro c hc; simp only [QV,XJ,or_false] at hc; rcases hc with rfl | rfl<;>first | exact Qv3 | exact B08 (by rw [A0A]; omega) | exact A2m | (show _<_; omega)))))) (h0:=?_) (round:=fun k hI=>?_)
 ·exact Xj _
 ·have hk:k≤2*L.length:=hI;clear hI;by_cases hlt:k<2*L.length
  ·have hltI:(k:Int)<2*(L.length:Int):=by omega
   have hat:=hr k hlt;have hA:=C69 L k hlt (by omega);obtain ⟨v,hv⟩: ∃v:Nat,atL L k=v:=⟨(atL L k).toNat,by omega⟩;have hvn:v<n:=by omega
   have hvI:(v:Int)<n:=by omega
   have hnx:=B2W hvn hv;have hg:=A3j (L:=L) (k:=k) hvn;have hol:=B1B L (v:Int) k;have hll:=A0A L n k;rw [hv] at hA;generalize ownL L (v:Int) k=o at*;have g1:=B9j (b:=1) hg;have g2:=B5K (b:=1) hg;have g3:=B9l hg;have g4:=B9k 1 v (A1d L n k) (o++[(k:Int)]);have g5:=B9m v (A1d L n k) (o++[(k:Int)]) (n:=o.length+1) (by simp);rw [<-hnx] at g4 g5;refine zRc (zc @hltI (zc @hvI (zc @A0z (zc @g1 (zc @g2 (zc @g3 (zc @g4 (zc @g5 (zc @A2y (zc @A9k (zc @hll (zc @A0e (zc @A2w Qv5))))))))))))) (zc hA Qv5) @A1c ?_;refine ⟨k+1,Weak.headN (n+1) 31 [1,5,11,12] (by (repeat' (first | exact A1K _ | exact A15 _ | exact A1p _ | refine Qv4 ?_ ?_ | refine A1y ?_ ?_ | refine A04 ?_ ?_ | refine A1e ?_ ?_ | exact Qv3 | exact B08 (by rw [A0A]; omega) | exact A2m | (show _<_; omega) | exact A1g (fun _=>Qv3) | (intro c hc; cases hc; done) | (intro c hc; simp only [QV,XJ,or_false] at hc; subst hc; first | exact Qv3 | exact B08 (by rw [A0A]; omega) | exact A2m | (show _<_; omega)) | (intro c hc; simp only [QV,XJ,or_false] at hc; rcases hc with rfl | rfl<;>first | exact Qv3 | exact B08 (by rw [A0A]; omega) | exact A2m | (show _<_; omega))))),?_,?_⟩
   ·exact hlt
   ·omega
  ·have ek:k=2*L.length:=by omega
   subst ek;have hnl: ¬(((2*L.length:Nat):Int)<2*(L.length:Int)):=by omega
   refine zJ (stop 7) (zc @hnl Qv5) Qv5 Qv5 Qv5 ?_;refine AWp.boxData 5 0 1 ((A1d L n (2*L.length)).map A0l) rfl rfl (by rw [XW,A0A]) (Qk _) ?_;rw [C3V];simp only [List.set_cons_succ,List.set_cons_zero];refine zR Qv5 Qv5 Qv5 ?_;simp [A0s,A0r,Blk.cells,ty,Tryz.results132,A0o,A0p,toT,A0d,A0b,A0c,A0a,A05]
def B4x (l:List Int):Nat->Nat
 | 0=>0
 | k+1=>if l.getD (k+1) 0<l.getD (B4x l k) 0 then k+1 else B4x l k
def C3X (l:List Int):Nat:=B4x l (l.length-1)
def C6A (l:List Int):List Int:=l.drop (C3X l)++l.take (C3X l)
def facesR (r:R):List (List Nat):=if (endsL r.es).length=0 then [[]] else C3U (fR (endsL r.es) r.ar) (2*(endsL r.es).length) (2*(endsL r.es).length)
def genusR (r:R):Int:=Int.tdiv (2-r.n+(endsL r.es).length-(facesR r).length) 2
def B4y (pre mid post new:List ACell) (h:new.length=mid.length):setMany (pre++mid++post) pre.length new=pre++new++post:=by
 apply Zq;intro i;rw [A2q _ _ _ _ (by simp; omega)];by_cases h1:i<pre.length
 ·rw [if_neg (by omega),Zv,Zv,Qw h1,Qw h1]
 ·by_cases h2:i<pre.length+new.length
  ·rw [if_pos ⟨by omega,h2⟩,Zv,QW (by omega),Qw (by omega)]
  ·rw [if_neg (by omega),QW (by simp; omega),QW (l₁:=pre++new) (by simp; omega)];simp [h]
def A53 (l:List Int):flatRows (A0l l)=iC l:=by
 unfold flatRows A0l iC
 induction l with
 | nil=>rfl
 | cons x l ih=>simp only [XY,List.flatten_cons,Jz,ih]; rfl
def B2Z (a b:List Int):iC (a++b)=iC a++iC b:=by simp [iC]
def B9s (n:Nat) (x:Int):iC (List.replicate n x)=List.replicate n (.int .i64 x):=by simp [iC]
def C24 (l:List Int):Nat->List Int
 | 0=>l
 | i+1=>((C24 l i).set i ((C24 l i)[l.length-1-i]?.getD 0)).set (l.length-1-i) ((C24 l i)[i]?.getD 0)
@[simp] theorem C6h (l:List Int):C24 l 0=l:=rfl
def B9t {m:Nat} {pre:List Blk} {B:List Int} (hpre: ∀b,b∈pre->blkIn (pre.length+1) b) (hm:m=pre.length+1:=by rfl):A1N m (pre++[.box (iC B)]):=by
 subst hm;intro b hb;rcases XZ.1 hb with hb | hb
 ·exact hpre b hb
 ·obtain rfl:=XQ.1 hb;exact A0V
@[simp] theorem C7x (pre:List Blk) (X:Blk):(pre++[X]).take (pre.length+1)=pre++[X]:=Zw (by simp)
end Go.Proofs.YtdbdfkohpjefjaaGreat
