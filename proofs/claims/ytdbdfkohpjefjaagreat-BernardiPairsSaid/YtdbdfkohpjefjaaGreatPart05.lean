/- A part of the proof. -/
import Derived.Test.YtdbdfkohpjefjaaGreatPart01
import Derived.Test.YtdbdfkohpjefjaaGreatPart03
set_option linter.all false
set_option maxHeartbeats 4000000
set_option maxRecDepth 100000
namespace Go.Proofs.YtdbdfkohpjefjaaGreat
section
open Go.Sp Go.RowKit
end
open Go.Sp
def A0p (l:List Int):List (List Tree):=l.map fun x=>[.int .i64 x]
def A0q (l:List Int):TVal:= .t (.slice (A0p l))
attribute [go_sem] A0q
def A0e (l:List Int):(A0p l).length=l.length:=by simp [A0p]
variable {i:Nat} {x:Int}
def A0y {l:List Int} (h:l[i]? =some x):(A0p l)[i]? =some [.int .i64 x]:=by simp [A0p,h]
def A1v {l:List Int} {r:List Tree} (h:r∈A0p l):r.length=1:=by
 obtain ⟨x,_,rfl⟩:=QJ.1 h; rfl
def A2v (l:List Int) (a:Int):A0p l++[[.int .i64 a]]=A0p (l++[a]):=by simp [A0p]
def C4l (g:G) (hl:g.es.length<2^30):ACall Tryz.prog 197 [tG g] (.tup [A0n (if checkG g≠0 then 0 else (endsL g.es).length),A0n (checkG g)]):=by
 have h:=B4b g hl;by_cases hc:checkG g≠0
 ·rw [if_pos hc] at h ⊢;refine ACall.of_body Tryz.func197 rfl (by kernel_rfl) ?_;simp only [entry,Tryz.ntmps197,tG];refine zU ?_;refine zR Qv6 (zc h Qv6) Qv6 ?_;simp [A00,A0z,Blk.cells,ty,Tryz.results197,A0v,A0w,toT,A0d,A0b,A0c,A0a,A0n]
 ·rw [if_neg hc] at h ⊢;refine ACall.of_body Tryz.func197 rfl (by kernel_rfl) ?_;simp only [entry,Tryz.ntmps197,tG];refine zU ?_;refine zR (zc @A08 Qv6) (zc h Qv6) Qv6 ?_;have e:checkG g=0:=by omega
  simp [A00,A0z,Blk.cells,ty,Tryz.results197,A0v,A0w,toT,A0d,A0b,A0c,A0a,A0n,e]
def A1C:List Int->Int->Int
 | [],_=> -1
 | x::xs,v=>if x=v then 0 else if A1C xs v<0 then -1 else A1C xs v+1
def B4g (l:List Int) (v:Int): -1≤A1C l v:=by
 induction l with
 | nil=>simp [A1C]
 | cons x xs ih=>simp only [A1C]; (repeat' split)<;>omega
def B2E {l:List Int} {v:Int}: ∀{k:Nat},(∀j,j<k-> ∀x,l[j]? =some x->x≠v)->k≤l.length->A1C l v=if A1C (l.drop k) v<0 then -1 else A1C (l.drop k) v+k:=by
 induction l with
 | nil=>intro k _ hk; simp [A1C]
 | cons x xs ih=>
  intro k h hk;cases k with
  | zero=>have:=B4g (x::xs) v; simp only [ZY,Int.natCast_zero]; split<;>omega
  | succ k=>
   have h0:=h 0 (by omega) x rfl;have:=ih (k:=k) (fun j hj y hy=>h (j+1) (by omega) y (by simpa using hy)) (by simpa using hk);simp only [A1C,Zw,if_neg h0,this];have h1:=B4g (xs.drop k) v
   (repeat' split)<;>omega
def B5v {l:List Int} {v:Int} {k:Nat} (h: ∀j,j<k-> ∀x,l[j]? =some x->x≠v) (hk:k<l.length) (e:l[k]=v):A1C l v=k:=by
 rw [B2E h (by omega),Zz hk,A1C,if_pos e]; simp
def B8K {l:List Int} {v:Int} (h: ∀j,j<l.length-> ∀x,l[j]? =some x->x≠v):A1C l v= -1:=by
 rw [B2E h (QQ _),Qq2]; simp [A1C]
def B5w (l:List Int) (v:Int) (hl:l.length<2^40):ACall Tryz.prog 87 [A0q l,A0n v] (A0n (A1C l v)):=by
 refine ACall.of_body Tryz.func87 rfl (by kernel_rfl) ?_;simp only [entry,Tryz.ntmps87,A0q,A0n];refine zU ?_;refine zR (zc @A0e Qv6) Qv6 Qv6 ?_;refine AWp.loopS (α:=Nat) 19 (fun k=>[(0,.c (.slice (A0p l) .none)),(1,.c (.int .i64 v)),(7,.c (.int .i64 l.length)),(8,.c (.int .i64 (k:Int)))]) (fun k=>[]) (fun k=>k≤l.length∧ ∀j,j<k-> ∀x,l[j]? =some x->x≠v) (fun k=>l.length-k) (0) (hk:=Weak.headL 0 19 [0,1,7,8] zW) (h0:=?_) (round:=fun k hI=>?_)
 ·exact ⟨Xw _,fun j hj=>by omega⟩
 ·obtain ⟨hk,hx⟩:=hI;by_cases hlt:k<l.length
  ·have e1:=A0y (Qq hlt);refine zM Qv6 (zc @e1 (zc @ZJ Qv6)) Qv6 Qv6 Qv6 (zc (ed fun hp hpc=>?_) (ed fun hp hpc=>?_))
   ·have hv:A1C l v=k:=B5v hx hlt (by omega);simp [A00,A0z,Blk.cells,ty,Tryz.results87,A0v,A0w,toT,A0d,A0b,A0c,A0a,A0n,hv]
   ·refine ⟨k+1,Weak.headN 0 19 [0,1,7,8] zW,?_,?_⟩
    ·refine ⟨hlt,fun j hj x hjx=> ?_⟩;by_cases hjk:j=k
     ·subst hjk; rw [Qq hlt] at hjx; cases hjx; omega
     ·exact hx j (by omega) x hjx
    ·omega
  ·have hv:A1C l v= -1:=B8K (fun j hj=>hx j (by omega));refine zR (zc @ZJ Qv6) Qv6 Qv6 ?_;simp [A00,A0z,Blk.cells,ty,Tryz.results87,A0v,A0w,toT,A0d,A0b,A0c,A0a,A0n,hv]
def A8k (l:List Int) (v:Int):0≤A1C l v↔v∈l:=by
 induction l with
 | nil=>simp [A1C]
 | cons x xs ih=>
  simp only [A1C,Qw];have h1:=B4g xs v;by_cases h:x=v
  ·simp [h]
  ·rw [if_neg h];have: ¬v=x:=fun e=>h e.symm;simp only [this,false_or,<-ih];split<;>omega
def A5U (l:List Int) (v:Int) (hl:l.length<2^40):ACall Tryz.prog 39 [A0q l,A0n v] (A0x (decide (v∈l))):=by
 have e:=A8k l v;refine ACall.of_body Tryz.func39 rfl (by kernel_rfl) ?_;simp only [entry,Tryz.ntmps39,A0q,A0n];refine zU ?_;refine zR Qv6 (zc (B5w l v hl) Qv6) Qv6 ?_;simp [A00,A0z,Blk.cells,ty,Tryz.results39,A0v,A0w,toT,A0d,A0b,A0c,A0a,A0x,e]
def B1x (l m:List Int) (hl:l.length<2^40) (hm:m.length<2^40):ACall Tryz.prog 27 [A0q l,A0q m] (A0x (decide (l=m))):=by
 refine ACall.of_body Tryz.func27 rfl (by kernel_rfl) ?_;simp only [entry,Tryz.ntmps27,A0q];refine zU ?_;refine zM Qv6 (zc @A0e Qv6) Qv6 Qv6 Qv6 (zc (ed fun hp hpc=>?_) (ed fun hp hpc=>?_))
 ·have e: ¬l=m:=fun e=>by subst e; omega
  simp [A00,A0z,Blk.cells,ty,Tryz.results27,A0v,A0w,toT,A0d,A0b,A0c,A0a,A0x,e]
 ·have hlm:l.length=m.length:=by omega
  refine AWp.loopS (α:=Nat) 26 (fun k=>[(0,.c (.slice (A0p l) .none)),(1,.c (.slice (A0p m) .none)),(12,.c (.int .i64 l.length)),(13,.c (.int .i64 (k:Int)))]) (fun k=>[]) (fun k=>k≤l.length∧ ∀j,j<k->l[j]? =m[j]?) (fun k=>l.length-k) (0) (hk:=Weak.headL 0 26 [0,1,12,13] zW) (h0:=?_) (round:=fun k hI=>?_)
  ·exact ⟨Xw _,fun j hj=>by omega⟩
  ·obtain ⟨hk,hx⟩:=hI;by_cases hlt:k<l.length
   ·have hlt2:k<m.length:=by omega
    have e1:=A0y (Qq hlt);have e2:=A0y (Qq hlt2);refine zM Qv6 (zc @e1 (zc @e2 (zc @ZJ Qv6))) Qv6 Qv6 Qv6 (zc (ed fun hp hpc=>?_) (ed fun hp hpc=>?_))
    ·have e: ¬l=m:=fun e=>by subst e; omega
     simp [A00,A0z,Blk.cells,ty,Tryz.results27,A0v,A0w,toT,A0d,A0b,A0c,A0a,A0x,e]
    ·refine ⟨k+1,Weak.headN 0 26 [0,1,12,13] zW,?_,?_⟩
     ·refine ⟨hlt,fun j hj=> ?_⟩;by_cases hjk:j=k
      ·subst hjk; rw [Qq hlt,Qq hlt2]; congr 1
      ·exact hx j (by omega)
     ·omega
   ·have e:l=m:=Zx fun j=>by
     by_cases hj:j<l.length
     ·exact hx j (by omega)
     ·rw [Xx (by omega),Xx (by omega)]
    refine zR (zc @ZJ Qv6) Qv6 Qv6 ?_;simp [A00,A0z,Blk.cells,ty,Tryz.results27,A0v,A0w,toT,A0d,A0b,A0c,A0a,A0x,e]
def B8L (v:Int):List E->Int
 | []=>0
 | x::xs=>(if x.a≠x.b∧(x.a=v∨x.b=v) then x.m else 0)+B8L v xs
def iC (B:List Int):List ACell:=B.map fun x=>ACell.int .i64 x
def A1N (B:List Int):(iC B).length=B.length:=by simp [iC]
def B0z (B:List Int) (i:Nat) (x:Int):(iC B).set i (.int .i64 x)=iC (B.set i x):=by simp [iC,Qj8]
def A2h (n:Nat):A7a [ACell.int .i64 0] n=iC (List.replicate n 0):=by simp [A7a,iC]
def B5x (B:List Int):(iC B).mapM A0a=some (B.map fun x=>Tree.int .i64 x):=by
 induction B with
 | nil=>rfl
 | cons x xs ih=>simp only [iC,XQ,JZ] at ih ⊢; rw [ih]; rfl
def B2F (B:List Int) (i:Nat) (r:List Tree) (m:Nat) (x:Tree) (h1:(A0p B)[i]? =some r) (h2:r[m]? =some x):(B.map fun x=>Tree.int .i64 x)[i*1+m]? =some x:=by
 simp only [A0p,QW] at h1;cases hb:B[i]? with
 | none=>rw [hb] at h1; simp at h1
 | some b=>
  rw [hb] at h1;simp at h1;subst h1;cases m with
  | zero=>simp at h2; simp [hb,h2]
  | succ m=>simp at h2
def A64 {B:List Int} (h:B[i]? =some x):(iC B)[i]? =some (.int .i64 x):=by simp [iC,h]
def A1k {m:Nat} {B:List Int}:blkIn m (.box (iC B)):=by
 intro c hc;obtain ⟨p,_,rfl⟩:=QJ.1 hc;exact Qv4
def A5z (l:List Int) (i:Nat):(A0p l).take i=A0p (l.take i):=by simp [A0p]
def A0u (ls:List (List Int)):List (List Tree):=ls.map fun l=>[Tree.slice (A0p l)]
def A0S (ls:List (List Int)):TVal:= .t (.slice (A0u ls))
attribute [go_sem] A0S
def A0o (ls:List (List Int)):(A0u ls).length=ls.length:=by simp [A0u]
variable {ls:List (List Int)}
def A0U {l:List Int} (h:ls[i]? =some l):(A0u ls)[i]? =some [Tree.slice (A0p l)]:=by simp [A0u,h]
def A3l {ls:List (List Int)} {r:List Tree} (h:r∈A0u ls):r.length=1:=by
 obtain ⟨x,_,rfl⟩:=QJ.1 h; rfl
def A5V (ls:List (List Int)) (a:List Int):A0u ls++[[Tree.slice (A0p a)]]=A0u (ls++[a]):=by simp [A0u]
def C31 (ls:List (List Int)):(ls.map A0p).map (fun r=>[Tree.slice r])=A0u ls:=by simp [A0u]
def chI (b:Nat) (ls:List (List Int)):List ACell:=chC b (ls.map A0p)
def chJ (ls:List (List Int)):List Blk:=chB (ls.map A0p)
def A2w (b:Nat) (ls:List (List Int)):(chI b ls).length=ls.length:=by simp [chI,B8v]
def A9b (ls:List (List Int)):(chJ ls).length=ls.length:=by simp [chJ,C4c]
def B8M {b i:Nat} {ls:List (List Int)} {l:List Int} (h:ls[i]? =some l):(chI b ls)[i]? =some (.slice (A0p l) (.chain (i+b))):=B3T (by simp [h])
def B5y {b i:Nat} {ls:List (List Int)} {l:List Int} (h:ls[i]? =some l):(chI b ls).drop i= .slice (A0p l) (.chain (i+b))::(chI b ls).drop (i+1):=C1C (by simp [h])
def B8N (b i:Nat) (ls:List (List Int)) (l:List Int):(chI b ls).set i (.slice (A0p l) (.chain (i+b)))=chI b (ls.set i l):=by unfold chI; rw [B8w,Qj8]
def B8O {l:List Int} (h:ls[i]? =some l):(chJ ls)[i]? =some (.chain l.length 1):=by
 have:=C4d (f:=ls.map A0p) (i:=i) (r:=A0p l) (by simp [h]);rwa [A0e] at this
def B8P (i:Nat) (ls:List (List Int)) (l:List Int) {n:Nat} (hn:n=l.length):(chJ ls).set i (.chain n 1)=chJ (ls.set i l):=by
 unfold chJ; rw [C4e _ i (A0p l) (by rw [A0e]; exact hn),Qj8]
def B00 {m b:Nat} (h:b+ls.length≤m):blkIn m (.box (chI b ls)):=B8x (by simpa using h)
def A2o {m:Nat}:A1y m (chJ ls):=C5V
def A65 {n:Nat} (h:ls.length≤n):(chJ ls).take n=chJ ls:=ZZ (by rw [A9b]; exact h)
def C4m (b n:Nat):chC b (List.replicate n [])=chI b (List.replicate n []):=by simp [chI,A0p]
def C4n (n:Nat):chB (List.replicate n [])=chJ (List.replicate n []):=by simp [chJ,A0p]
def B8Q (n:Nat):A7a [ACell.nils] n=List.replicate n .nils:=by simp [A7a]
structure R where
 n:Int
 es:List E
 ar:List (List Int)
def R.g (r:R):G:=⟨r.n,r.es⟩
def tR (r:R):TVal:= .agg [.int .i64 r.n,.slice (A0f r.es),.slice (A0u r.ar)]
def B8R (N:Nat) (g:Nat->Int):List Int:=(List.range N).map g
def A8l (N:Nat) (g:Nat->Int):(B8R N g).length=N:=by simp [B8R]
def B1y {N i:Nat} (g:Nat->Int) (h:i<N):(B8R N g)[i]? =some (g i):=by simp [B8R,h]
def B01 {N:Nat} {g f:Nat->Int} (h: ∀i,i<N->g i=f i):B8R N g=B8R N f:=Jy fun i hi=>h i (Xy.1 hi)
def C1U {N i:Nat} (g:Nat->Int) (x:Int) (hi:i<N):(B8R N g).set i x=B8R N (fun j=>if j=i then x else g j):=by
 apply Zx;intro k;by_cases hk:k<N
 ·rw [B1y _ hk];by_cases e:i=k
  ·subst e; rw [QZ (by rw [A8l]; exact hi)]; simp
  ·rw [QX e,B1y _ hk,if_neg (by omega)]
 ·rw [Xx (by rw [Yw,A8l]; omega),Xx (by rw [A8l]; omega)]
def atL (L:List (Int×Int)) (h:Nat):Int:=if h%2=0 then (L.getD (h / 2) (0,0)).1 else (L.getD (h / 2) (0,0)).2
def ownL (L:List (Int×Int)) (v:Int) (k:Nat):List Int:=((List.range k).filter fun h=>decide (atL L h=v)).map fun h:Nat=>(h:Int)
def A1l (L:List (Int×Int)) (n k:Nat):List (List Int):=(List.range n).map fun v:Nat=>ownL L (v:Int) k
def A4Y (L:List (Int×Int)) (v:Int) (k:Nat):ownL L v (k+1)=if atL L k=v then ownL L v k++[(k:Int)] else ownL L v k:=by
 unfold ownL;rw [WX,JV];by_cases h:atL L k=v<;>simp [h]
def A1K {L:List (Int×Int)} {v:Int} {k:Nat} {x:Int}:x∈ownL L v k↔0≤x∧x<k∧atL L x.toNat=v:=by
 unfold ownL;rw [QJ];constructor
 ·rintro ⟨h,hm,rfl⟩;rw [Yq,Xy,decide_eq_true_eq] at hm;exact ⟨by omega,by omega,by simpa using hm.2⟩
 ·rintro ⟨h1,h2,h3⟩;refine ⟨x.toNat,?_,by omega⟩;rw [Yq,Xy,decide_eq_true_eq];exact ⟨by omega,h3⟩
def A9c (L:List (Int×Int)) (v:Int) (k:Nat):(ownL L v k).Pairwise (·< ·):=by
 unfold ownL;rw [JQ];exact (List.pairwise_lt_range.filter _).imp fun h=>by omega
def A8m (L:List (Int×Int)) (v:Int) (k:Nat):(ownL L v k).length≤k:=by
 unfold ownL;rw [XW];exact Yj (Jw _ _) (by simp)
def A0J (L:List (Int×Int)) (n k:Nat):(A1l L n k).length=n:=by simp [A1l]
def A3m {L:List (Int×Int)} {n k v:Nat} (hv:v<n):(A1l L n k)[v]? =some (ownL L (v:Int) k):=by simp [A1l,hv]
def B2G (L:List (Int×Int)) (n:Nat):List.replicate n []=A1l L n 0:=by
 rw [A1l,eq_comm,List.eq_replicate_iff];exact ⟨by simp,fun x hx=>by obtain ⟨_,_,rfl⟩:=QJ.1 hx; rfl⟩
def B2H {L:List (Int×Int)} {n k v:Nat} (hv:v<n) (h:atL L k=v):A1l L n (k+1)=(A1l L n k).set v (ownL L (v:Int) k++[(k:Int)]):=by
 apply Zx;intro i;by_cases hi:i<n
 ·rw [A3m hi,A4Y];by_cases e:v=i
  ·subst e;rw [QZ (by rw [A0J]; exact hv),if_pos h]
  ·rw [QX e,A3m hi,if_neg (by omega)]
 ·rw [Xx (by rw [A0J]; omega),Xx (by rw [Yw,A0J]; omega)]
def A3n (own:List Int):List Int->List Int->Int
 | _,[]=>0
 | pre,h::t=>if h∈own then (if h∈pre then 7 else A3n own (pre++[h]) t) else 2
def A1m (l own:List Int):Int:=
 if l.length≠own.length then 8 else if A3n own [] l≠0 then A3n own [] l else if l≠[]∧l.getD 0 0≠own.getD 0 0 then 9 else 0
def A5A (L:List (Int×Int)) (N:Nat):Nat->List (List Int)->Int
 | _,[]=>0
 | v,l::ar=>if A1m l (ownL L (v:Int) N)≠0 then A1m l (ownL L (v:Int) N) else A5A L N (v+1) ar
def A7n {own:List Int}: ∀{pre l:List Int},A3n own pre l=0->(∀x,x∈l->x∈own)∧l.Nodup∧ ∀x,x∈l->x∉pre
 | _,[],_=>⟨fun x hx=>(by cases hx),List.nodup_nil,fun x hx=>(by cases hx)⟩
 | pre,h::t,e=>by
  simp only [A3n] at e;split at e
  ·rename_i h1;split at e
   ·omega
   ·rename_i h2;obtain ⟨q1,q2,q3⟩:=A7n e;refine ⟨fun x hx=> ?_,Qq5.2 ⟨fun hm=>q3 h hm (by simp),q2⟩,fun x hx=> ?_⟩
    ·rcases Qw.1 hx with rfl | hx
     ·exact h1
     ·exact q1 x hx
    ·rcases Qw.1 hx with rfl | hx
     ·exact h2
     ·intro hp; exact q3 x hx (by simp [hp])
  ·omega
structure LOk (l own:List Int):Prop where
 nd:l.Nodup
 sub: ∀x,x∈l->x∈own
 sup: ∀x,x∈own->x∈l
 len:l.length=own.length
 hd:l=[]∨l.getD 0 0=own.getD 0 0
def C32 {l own:List Int} (h1:l.Nodup) (h2: ∀x,x∈l->x∈own) (h3:l.length=own.length): ∀x,x∈own->x∈l:=by
 intro x hx;apply Xq;intro hn
 have:=YZ (l₁:=x::l) (l₂:=own) (Qq5.2 ⟨hn,h1⟩) (fun y hy=>by
  rcases Qw.1 hy with rfl | hy
  ·exact hx
  ·exact h2 y hy)
 simp at this; omega
def B4h {l own:List Int} (h:A1m l own=0):LOk l own:=by
 unfold A1m at h;split at h
 ·omega
 ·rename_i h1;split at h
  ·omega
  ·rename_i h2;split at h
   ·omega
   ·rename_i h3;simp only [ne_eq,Decidable.not_not] at h1 h2;obtain ⟨q1,q2,_⟩:=A7n h2;refine ⟨q2,q1,C32 q2 q1 h1,h1,?_⟩;by_cases e:l=[]
    ·exact .inl e
    ·exact .inr (Xq fun hn=>h3 ⟨e,hn⟩)
def B02 {L:List (Int×Int)} {N:Nat}: ∀{v:Nat} {ar:List (List Int)},A5A L N v ar=0-> ∀i l,ar[i]? =some l->LOk l (ownL L ((v+i:Nat):Int) N)
 | v,[],_,i,l,hl=>by simp at hl
 | v,x::ar,h,i,l,hl=>by
  simp only [A5A] at h;split at h
  ·omega
  ·rename_i h1;simp only [ne_eq,Decidable.not_not] at h1;cases i with
   | zero=>simp at hl; subst hl; exact B4h h1
   | succ i=>
    have:=B02 h i l (by simpa using hl);rwa [show v+1+i=v+(i+1) by omega] at this
def oppH (h:Nat):Nat:=h+1-2*(h%2)
def A9d (l:List Int) (x:Int):Int:=l.getD ((l.idxOf x+1)%l.length) 0
def nextR (L:List (Int×Int)) (ar:List (List Int)) (h:Nat):Int:=A9d (ar.getD (atL L h).toNat []) (h:Int)
def fR (L:List (Int×Int)) (ar:List (List Int)) (h:Nat):Nat:=(nextR L ar (oppH h)).toNat
def B5z {α:Type} {l:List α} (hn:l.Nodup) {i j:Nat} (hi:i<l.length) (hj:j<l.length) (e:l[i]=l[j]):i=j:=by
 rw [List.Nodup,ZV] at hn;rcases Qw2 i j with h | h | h
 ·exact absurd e (hn i j hi hj h)
 ·exact h
 ·exact absurd e.symm (hn j i hj hi h)
def A3A {l:List Int} (hx:x∈l):l.idxOf x<l.length∧l[l.idxOf x]? =some x:=by
 have h:=List.idxOf_lt_length_of_mem hx;exact ⟨h,by rw [Qq h,List.getElem_idxOf h]⟩
def B8S {l:List Int} (hx:x∈l):A9d l x∈l:=by
 have h:=(A3A hx).1;unfold A9d;rw [Qz,Qq (VZ _ (by omega))];exact Xk _
def B8T {l:List Int} (hn:l.Nodup) {x y:Int} (hx:x∈l) (hy:y∈l) (e:A9d l x=A9d l y):x=y:=by
 obtain ⟨h1,h2⟩:=A3A hx;obtain ⟨h3,h4⟩:=A3A hy;have m1:(l.idxOf x+1)%l.length<l.length:=VZ _ (by omega);have m2:(l.idxOf y+1)%l.length<l.length:=VZ _ (by omega);unfold A9d at e;rw [Qz,Qq m1,Qz,Qq m2] at e;simp only [Option.getD_some] at e;have e2:=B5z hn m1 m2 e;have key: ∀a b c:Nat,a<c->b<c->(a+1)%c=(b+1)%c->a=b:=fun a b c ha hb hab=>by
  by_cases q1:a+1=c
  ·by_cases q2:b+1=c
   ·omega
   ·rw [q1,Nat.mod_self,Vj (by omega)] at hab; omega
  ·by_cases q2:b+1=c
   ·rw [q2,Nat.mod_self,Vj (by omega)] at hab; omega
   ·rw [Vj (by omega),Vj (by omega)] at hab; omega
 have e3:=key _ _ _ h1 h3 e2;rw [<-Vw,<-h2,<-h4,e3]
def B2I (x:Int):ACall Tryz.prog 143 [A0n x] (A0x false):=by
 refine ACall.of_body Tryz.func143 rfl (by kernel_rfl) ?_;simp only [entry,Tryz.ntmps143,A0n];refine zU ?_;refine zR Qv6 Qv6 Qv6 ?_;simp [A00,A0z,Blk.cells,ty,Tryz.results143,A0v,A0w,toT,A0d,A0b,A0c,A0a,A0x]
def A9e (x:Int):ACall Tryz.prog 199 [A0n x] (A0x false):=by
 refine ACall.of_body Tryz.func199 rfl (by kernel_rfl) ?_;simp only [entry,Tryz.ntmps199,A0n];refine zU ?_;refine zR Qv6 Qv6 Qv6 ?_;simp [A00,A0z,Blk.cells,ty,Tryz.results199,A0v,A0w,toT,A0d,A0b,A0c,A0a,A0x]
def C4o (x y:Int):ACall Tryz.prog 198 [A0n x,A0n y] (A0x (decide (x<y))):=by
 refine ACall.of_body Tryz.func198 rfl (by kernel_rfl) ?_;simp only [entry,Tryz.ntmps198,A0n];refine zU ?_;refine zR Qv6 (zc (B2I x) (zc (B2I y) Qv6)) Qv6 ?_;simp [A00,A0z,Blk.cells,ty,Tryz.results198,A0v,A0w,toT,A0d,A0b,A0c,A0a,A0x]
def C4p (x:Int):x.fdiv (2^min 1 IntKind.u64.bits)=x / 2:=by
 rw [show (2:Int)^min 1 IntKind.u64.bits=2 by decide];exact Int.fdiv_eq_ediv_of_nonneg _ (by omega)
def C6g (x:Int):x.fdiv (2^min 1 64)=x / 2:=C4p x
def loI:List Int->Int->Nat
 | [],_=>0
 | y::ys,x=>if y<x then loI ys x+1 else 0
def C33: ∀{l:List Int} {x:Int} {i:Nat},i≤l.length->(∀k (h:k<l.length),k<i->l[k]<x)->(∀h:i<l.length,¬l[i]<x)->loI l x=i
 | [],x,i,h,_,_=>by simp at h; simp [loI,h]
 | y::ys,x,i,h,h1,h2=>by
  simp only [loI];cases i with
  | zero=>exact if_neg (h2 (by simp))
  | succ i=>
   rw [if_pos (show y<x from h1 0 (by simp) (by omega)),C33 (i:=i) (by simpa using h) (fun k hk hki=>h1 (k+1) (by simpa using hk) (by omega)) (fun hi=>h2 (by simpa using hi))]
def C4q (l:List Int) (x:Int) (hs:l.Pairwise (·< ·)) (hl:l.length<2^40):
  ACall Tryz.prog 182 [A0q l,A0n x] (.tup [A0n (loI l x),A0x (decide (x∈l))]):=by
 rw [ZV] at hs;refine ACall.of_body Tryz.func182 rfl (by kernel_rfl) ?_;simp only [entry,Tryz.ntmps182,A0q,A0n];refine zU ?_;refine zR (zc @A0e Qv6) Qv6 Qv6 ?_;refine AWp.loopS (α:=(Nat×Nat)) 54 (fun s=>[(0,.c (.slice (A0p l) .none)),(1,.c (.int .i64 x)),(6,.c (.int .i64 l.length)),(7,.c (.int .i64 (s.1:Int))),(8,.c (.int .i64 (s.2:Int)))]) (fun s=>[]) (fun s=>s.1≤s.2∧s.2≤l.length∧(∀k (h:k<l.length),k<s.1->l[k]<x)∧(∀k (h:k<l.length),s.2≤k-> ¬l[k]<x)) (fun s=>s.2-s.1) ((0,l.length)) (hk:=Weak.headL 0 54 [0,1,6,7,8] zW) (h0:=?_) (round:=fun s hI=>?_)
 ·exact ⟨Xw _,QQ _,fun k h hk=>absurd hk (Nat.not_lt_zero _),fun k h hk=>by omega⟩
 ·obtain ⟨i,j⟩:=s;obtain ⟨hij,hj,h1,h2⟩:=hI;simp only at hij hj h1 h2 ⊢;by_cases hlt:i<j
  ·have hd:((i:Int)+(j:Int)) / 2=(((i+j) / 2:Nat):Int):=by omega
   have hm1:i≤(i+j) / 2:=by omega
   have hm2:(i+j) / 2<j:=by omega
   generalize (i+j) / 2=m at*;have hml:m<l.length:=by omega
   have e1:=A0y (Qq hml);generalize hy:l[m]=y at*;have hcall:=C4o y x;by_cases hlt2:y<x
   ·rw [decide_eq_true hlt2] at hcall;refine zR (zc @e1 (zc @C4p (zc @C6g (zc @hd (zc @ZJ (zc @A0e Qv6)))))) (zc hcall Qv6) Qv6 ?_;refine ⟨(m+1,j),Weak.headN 0 54 [0,1,6,7,8] zW,?_,?_⟩
    ·refine ⟨hm2,hj,fun k hk hki=> ?_,h2⟩;by_cases e:k=m
     ·subst e; rw [hy]; exact hlt2
     ·have:=hs k m hk hml (by omega);omega
    ·simp only; omega
   ·rw [decide_eq_false hlt2] at hcall;refine zR (zc @e1 (zc @C4p (zc @C6g (zc @hd (zc @ZJ (zc @A0e Qv6)))))) (zc hcall Qv6) Qv6 ?_;refine ⟨(i,m),Weak.headN 0 54 [0,1,6,7,8] zW,?_,?_⟩
    ·refine ⟨hm1,by omega,h1,fun k hk hki=> ?_⟩;by_cases e:k=m
     ·subst e; rw [hy]; exact hlt2
     ·have:=hs m k hml hk (by omega);omega
    ·simp only; omega
  ·have eij:i=j:=by omega
   subst eij;have hlo:loI l x=i:=C33 hj h1 (fun h=>h2 i h (QQ _));rw [hlo];by_cases hil:i<l.length
   ·have e0:=Qq hil;have e1:=A0y e0;have hf:x∈l↔l[i]=x:=by
     constructor
     ·intro hm;obtain ⟨k,hk,e⟩:=YJ.1 hm;rcases Qw2 k i with h | h | h
      ·have:=h1 k hk h; omega
      ·subst h; exact e
      ·have:=hs i k hil hk h; have:=h2 i hil (QQ _); omega
     ·intro e; rw [<-e]; exact Xk hil
    generalize hy:l[i]=y at*;rw [decide_eq_decide.2 hf];by_cases hxy:y=x
    ·subst hxy;refine zR (zc @e1 (zc @ZJ (zc @A0e (zc @hil Qv6)))) (zc (A9e y) Qv6) Qv6 ?_;simp [A00,A0z,Blk.cells,ty,Tryz.results182,A0v,A0w,toT,A0d,A0b,A0c,A0a,A0n,A0x]
    ·rw [decide_eq_false hxy];refine zR (zc @e1 (zc @ZJ (zc @A0e (zc @hil (zc @hxy Qv6))))) (zc (A9e y) (zc (A9e x) Qv6)) Qv6 ?_;simp [A00,A0z,Blk.cells,ty,Tryz.results182,A0v,A0w,toT,A0d,A0b,A0c,A0a,A0n,A0x]
   ·have hf: ¬x∈l:=fun hm=>by
     obtain ⟨k,hk,e⟩:=YJ.1 hm;have:=h1 k hk (by omega); omega
    rw [decide_eq_false hf];refine zR (zc @ZJ (zc @A0e (zc @hil Qv6))) Qv6 Qv6 ?_;simp [A00,A0z,Blk.cells,ty,Tryz.results182,A0v,A0w,toT,A0d,A0b,A0c,A0a,A0n,A0x]
def B03 {own pre t:List Int} {h:Int} (h1:h∈own) (h2:h∉pre):A3n own pre (h::t)=A3n own (pre++[h]) t:=by
 simp only [A3n]; rw [if_pos h1,if_neg h2]
def C4r (l own:List Int) (hs:own.Pairwise (·< ·)) (hl:l.length<2^40) (ho:own.length<2^40):ACall Tryz.prog 154 [A0q l,A0q own] (A0n (A1m l own)):=by
 refine ACall.of_body Tryz.func154 rfl (by kernel_rfl) ?_;simp only [entry,Tryz.ntmps154,A0q];refine zU ?_;by_cases hlen:l.length=own.length
 case neg=>
  have hlI: ¬((l.length:Int)=own.length):=by omega
  have e:A1m l own=8:=by unfold A1m; exact if_pos hlen
  rw [e];refine zR (zc @A0e (zc @hlI Qv6)) Qv6 Qv6 ?_;simp [A00,A0z,Blk.cells,ty,Tryz.results154,A0v,A0w,toT,A0d,A0b,A0c,A0a,A0n]
 have hlI:((l.length:Int)=own.length):=by omega
 refine zR (zc @A0e (zc @hlI Qv6)) Qv6 Qv6 ?_;refine AWp.loopS (α:=Nat) 47 (fun i=>[(0,.c (.slice (A0p l) .none)),(1,.c (.slice (A0p own) .none)),(14,.c (.slice (A0p l) .none)),(15,.c (.int .i64 (own.length:Int))),(16,.c (.int .i64 (i:Int)))]) (fun i=>[]) (fun i=>i≤l.length∧A3n own [] l=A3n own (l.take i) (l.drop i)) (fun i=>l.length-i) (0) (hk:=Weak.headL 0 47 [0,1,14,15,16] zW) (h0:=?_) (round:=fun i hI=>?_)
 ·exact ⟨Xw _,rfl⟩
 ·obtain ⟨hi,hI⟩:=hI;by_cases hlt:i<l.length
  ·have hltI:(i:Int)<own.length:=by omega
   have e0:=Qq hlt;have e1:=A0y e0;have hd:=Zz hlt;have htk:l.take (i+1)=l.take i++[l[i]]:=XZ hlt;generalize l[i]=x at*;have hB:=C4q own x hs ho;by_cases hm:x∈own
   case neg=>
    rw [decide_eq_false hm] at hB;have hg:A3n own [] l=2:=by rw [hI,hd]; simp only [A3n]; rw [if_neg hm]
    have e:A1m l own=2:=by unfold A1m; rw [if_neg (by omega),hg]; rfl
    rw [e];refine zR (zc @hltI (zc @A0e (zc @e1 Qv6))) (zc hB Qv6) Qv6 ?_;simp [A00,A0z,Blk.cells,ty,Tryz.results154,A0v,A0w,toT,A0d,A0b,A0c,A0a,A0n]
   rw [decide_eq_true hm] at hB;have hC:=A5U (l.take i) x (by rw [YV]; omega);by_cases hc:x∈l.take i
   ·have hg:A3n own [] l=7:=by rw [hI,hd]; simp only [A3n]; rw [if_pos hm,if_pos hc]
    have e:A1m l own=7:=by unfold A1m; rw [if_neg (by omega),hg]; rfl
    rw [e];rw [decide_eq_true hc] at hC;refine zR (zc @hltI (zc @A0e (zc @e1 (zc @A5z (zc @ZJ (zc @hlt Qv6)))))) (zc hB (zc hC Qv6)) @A1v ?_;simp [A00,A0z,Blk.cells,ty,Tryz.results154,A0v,A0w,toT,A0d,A0b,A0c,A0a,A0n]
   ·rw [decide_eq_false hc] at hC;refine zR (zc @hltI (zc @A0e (zc @e1 (zc @A5z (zc @ZJ (zc @hlt Qv6)))))) (zc hB (zc hC Qv6)) @A1v ?_;refine ⟨i+1,Weak.headN 0 47 [0,1,14,15,16] zW,?_,?_⟩
    ·refine ⟨hlt,?_⟩;rw [hI,hd,B03 hm hc,<-htk]
    ·omega
  ·have ei:i=l.length:=by omega
   have hg:A3n own [] l=0:=by rw [hI,ei,Qq2]; rfl
   have hnl: ¬((i:Int)<own.length):=by omega
   by_cases hne:l=[]
   ·have e:A1m l own=0:=by
     unfold A1m; rw [if_neg (by omega),if_neg (by omega),if_neg (fun h=>h.1 hne)]
    rw [e];subst hne;refine zR (zc @hnl (zc @A0e Qv6)) Qv6 Qv6 ?_;simp [A00,A0z,Blk.cells,ty,Tryz.results154,A0v,A0w,toT,A0d,A0b,A0c,A0a,A0n]
   ·have hp:0<l.length:=Ww.2 hne;have hpo:0<own.length:=by omega
    have hpI:(0:Int)<own.length:=by omega
    have e1:=Qq hp;have e2:=Qq hpo;have r1:=A0y e1;have r2:=A0y e2;have d1:l.getD 0 0=l[0]:=by rw [Qz,e1]; rfl
    have d2:own.getD 0 0=own[0]:=by rw [Qz,e2]; rfl
    have e:A1m l own=if l[0]=own[0] then 0 else 9:=by
     unfold A1m;rw [if_neg (by omega),if_neg (by omega),d1,d2];by_cases h:l[0]=own[0]
     ·rw [if_pos h,if_neg (fun h2=>h2.2 h)]
     ·rw [if_neg h,if_pos ⟨hne,h⟩]
    rw [e];generalize l[0]=x at*;generalize own[0]=y at*;by_cases hxy:x=y
    ·rw [if_pos hxy];refine zR (zc @hnl (zc @A0e (zc @hlI (zc @hpI (zc @r1 (zc @r2 (zc @hxy (zc @Int.toNat_zero Qv6)))))))) Qv6 Qv6 ?_;simp [A00,A0z,Blk.cells,ty,Tryz.results154,A0v,A0w,toT,A0d,A0b,A0c,A0a,A0n]
    ·rw [if_neg hxy];refine zR (zc @hnl (zc @A0e (zc @hlI (zc @hpI (zc @r1 (zc @r2 (zc @hxy (zc @Int.toNat_zero Qv6)))))))) Qv6 Qv6 ?_;simp [A00,A0z,Blk.cells,ty,Tryz.results154,A0v,A0w,toT,A0d,A0b,A0c,A0a,A0n]
def C1V (h:Nat):Int.tdiv (h:Int) 2=((h / 2:Nat):Int):=rfl
def C1W (h:Nat):Int.tmod (h:Int) 2=((h%2:Nat):Int):=rfl
def C6h (L:List (Int×Int)) (h:Nat) (hh:h<2*L.length) (hl:L.length<2^30):ACall Tryz.prog 169 [A0E L,A0n h] (A0n (atL L h)):=by
 have e0:L[h / 2]? =some L[h / 2]:=Qq (by omega);have e1:=A27 e0;have ea:atL L h=if h%2=0 then L[h / 2].1 else L[h / 2].2:=by unfold atL; rw [Qz,e0]; rfl
 have hlt:((h / 2:Nat):Int)<L.length:=by omega
 rw [ea];generalize L[h / 2]=p at*;obtain ⟨a,b⟩:=p;refine ACall.of_body Tryz.func169 rfl (by kernel_rfl) ?_;simp only [entry,Tryz.ntmps169,A0E,A0n];refine zU ?_;have hm:h%2=0∨h%2=1:=by omega
 rcases hm with hm | hm
 ·
  refine zR (zc @C1V (zc @C1W (zc @hm (zc @hlt (zc @A08 (zc @e1 Qv6)))))) Qv6 Qv6 ?_;simp [A00,A0z,Blk.cells,ty,Tryz.results169,A0v,A0w,toT,A0d,A0b,A0c,A0a,A0n,hm]
 ·
  refine zR (zc @C1V (zc @C1W (zc @hm (zc @hlt (zc @A08 (zc @e1 Qv6)))))) Qv6 Qv6 ?_;simp [A00,A0z,Blk.cells,ty,Tryz.results169,A0v,A0w,toT,A0d,A0b,A0c,A0a,A0n,hm]
@[simp] theorem C5F (L:List (Int×Int)) (n k:Nat):(chJ (A1l L n k)).take n=chJ (A1l L n k):=A65 (by rw [A0J]; exact QQ _)
def B2J (L:List (Int×Int)) (n:Nat) (hn:n<2^20) (hl:L.length<2^20) (hr: ∀h,h<2*L.length->0≤atL L h∧atL L h<n):
  ACall Tryz.prog 132 [A0n n,A0E L] (A0S (A1l L n (2*L.length))):=by
 refine ACall.of_body Tryz.func132 rfl (by kernel_rfl) ?_;simp only [entry,Tryz.ntmps132,A0E,A0n];refine zU ?_;refine zM Qv6 (zc @B8Q (zc @A08 (zc @Yz.{0} Qv6))) Qv6 Qv6 Qv6 (ed fun hp hpc=>?_);refine AWp.weak (Weak.openBs 0 n (pre:=[]) rfl (Xw _)) ?_;simp only [List.length_cons,List.length_nil,List.set_cons_zero,List.nil_append,List.cons_append,XX,C4m,C4n,B2G L n];refine AWp.loopS (α:=Nat) 31 (fun k=>[(1,.c (.slice (A1g L) .none)),(5,.c (.ref 0 1 0 n n)),(11,.c (.int .i64 (2*(L.length:Int)))),(12,.c (.int .i64 (k:Int)))]) (fun k=>.box (chI 1 (A1l L n k))::chJ (A1l L n k)) (fun k=>k≤2*L.length) (fun k=>2*L.length-k) (0) (hk:=Weak.headL (n+1) 31 [1,5,11,12] (by (repeat' (first | exact A0m _ | exact A0s _ | exact A0i _ | refine Qv5 ?_ ?_ | refine A0k ?_ ?_ | refine A0l ?_ ?_ | refine A0h ?_ ?_ | exact Qv4 | exact B00 (by rw [A0J]; omega) | exact A2o | (show _<_; omega) | exact A0r (fun _=>Qv4) | (intro c hc; cases hc; done) | (intro c hc; simp only [Qw,Qv,or_false] at hc; subst hc; first | exact Qv4 | exact B00 (by rw [A0J]; omega) | exact A2o | (show _<_; omega)) | (intro c hc; simp only [Qw,Qv,or_false] at hc; rcases hc with rfl | rfl<;>first | exact Qv4 | exact B00 (by rw [A0J]; omega) | exact A2o | (show _<_; omega)))))) (h0:=?_) (round:=fun k hI=>?_)
 ·exact Xw _
 ·have hk:k≤2*L.length:=hI;clear hI;by_cases hlt:k<2*L.length
  ·have hltI:(k:Int)<2*(L.length:Int):=by omega
   have hat:=hr k hlt;have hA:=C6h L k hlt (by omega);obtain ⟨v,hv⟩: ∃v:Nat,atL L k=v:=⟨(atL L k).toNat,by omega⟩;have hvn:v<n:=by omega
   have hvI:(v:Int)<n:=by omega
   have hnx:=B2H hvn hv;have hg:=A3m (L:=L) (k:=k) hvn;have hol:=A8m L (v:Int) k;have hll:=A0J L n k;rw [hv] at hA;generalize ownL L (v:Int) k=o at*;have g1:=B8M (b:=1) hg;have g2:=B5y (b:=1) hg;have g3:=B8O hg;have g4:=B8N 1 v (A1l L n k) (o++[(k:Int)]);have g5:=B8P v (A1l L n k) (o++[(k:Int)]) (n:=o.length+1) (by simp);rw [<-hnx] at g4 g5;refine zRc (zc @hltI (zc @hvI (zc @A08 (zc @g1 (zc @g2 (zc @g3 (zc @g4 (zc @g5 (zc @A2w (zc @A9b (zc @hll (zc @A0e (zc @A2v Qv6))))))))))))) (zc hA Qv6) @A1v ?_;refine ⟨k+1,Weak.headN (n+1) 31 [1,5,11,12] (by (repeat' (first | exact A0m _ | exact A0s _ | exact A0i _ | refine Qv5 ?_ ?_ | refine A0k ?_ ?_ | refine A0l ?_ ?_ | refine A0h ?_ ?_ | exact Qv4 | exact B00 (by rw [A0J]; omega) | exact A2o | (show _<_; omega) | exact A0r (fun _=>Qv4) | (intro c hc; cases hc; done) | (intro c hc; simp only [Qw,Qv,or_false] at hc; subst hc; first | exact Qv4 | exact B00 (by rw [A0J]; omega) | exact A2o | (show _<_; omega)) | (intro c hc; simp only [Qw,Qv,or_false] at hc; rcases hc with rfl | rfl<;>first | exact Qv4 | exact B00 (by rw [A0J]; omega) | exact A2o | (show _<_; omega))))),?_,?_⟩
   ·exact hlt
   ·omega
  ·have ek:k=2*L.length:=by omega
   subst ek;have hnl: ¬(((2*L.length:Nat):Int)<2*(L.length:Int)):=by omega
   refine zJ (stop 7) (zc @hnl Qv6) Qv6 Qv6 Qv6 ?_;refine AWp.boxData 5 0 1 ((A1l L n (2*L.length)).map A0p) rfl rfl (by rw [XW,A0J]) (QQ _) ?_;rw [C31];simp only [List.set_cons_succ,List.set_cons_zero];refine zR Qv6 Qv6 Qv6 ?_;simp [A00,A0z,Blk.cells,ty,Tryz.results132,A0v,A0w,toT,A0d,A0b,A0c,A0a,A0S]
def B4i (l:List Int):Nat->Nat
 | 0=>0
 | k+1=>if l.getD (k+1) 0<l.getD (B4i l k) 0 then k+1 else B4i l k
def C34 (l:List Int):Nat:=B4i l (l.length-1)
def C6i (l:List Int):List Int:=l.drop (C34 l)++l.take (C34 l)
def facesR (r:R):List (List Nat):=if (endsL r.es).length=0 then [[]] else C30 (fR (endsL r.es) r.ar) (2*(endsL r.es).length) (2*(endsL r.es).length)
def genusR (r:R):Int:=Int.tdiv (2-r.n+(endsL r.es).length-(facesR r).length) 2
def B4j (pre mid post new:List ACell) (h:new.length=mid.length):setMany (pre++mid++post) pre.length new=pre++new++post:=by
 apply Zx;intro i;rw [A2q _ _ _ _ (by simp; omega)];by_cases h1:i<pre.length
 ·rw [if_neg (by omega),Zk,Zk,Qk h1,Qk h1]
 ·by_cases h2:i<pre.length+new.length
  ·rw [if_pos ⟨by omega,h2⟩,Zk,QV (by omega),Qk (by omega)]
  ·rw [if_neg (by omega),QV (by simp; omega),QV (l₁:=pre++new) (by simp; omega)];simp [h]
def A7o (l:List Int):flatRows (A0p l)=iC l:=by
 unfold flatRows A0p iC
 induction l with
 | nil=>rfl
 | cons x l ih=>simp only [XQ,List.flatten_cons,WY,ih]; rfl
def B2K (a b:List Int):iC (a++b)=iC a++iC b:=by simp [iC]
def B8U (n:Nat) (x:Int):iC (List.replicate n x)=List.replicate n (.int .i64 x):=by simp [iC]
def C1X (l:List Int):Nat->List Int
 | 0=>l
 | i+1=>((C1X l i).set i ((C1X l i)[l.length-1-i]?.getD 0)).set (l.length-1-i) ((C1X l i)[i]?.getD 0)
@[simp] theorem C5G (l:List Int):C1X l 0=l:=rfl
def A66 {m:Nat} {pre:List Blk} {B:List Int} (hpre: ∀b,b∈pre->blkIn (pre.length+1) b) (hm:m=pre.length+1:=by rfl):A1y m (pre++[.box (iC B)]):=by
 subst hm;intro b hb;rcases XY.1 hb with hb | hb
 ·exact hpre b hb
 ·obtain rfl:=Zq.1 hb;exact A1k
@[simp] theorem C6T (pre:List Blk) (X:Blk):(pre++[X]).take (pre.length+1)=pre++[X]:=ZZ (by simp)
end Go.Proofs.YtdbdfkohpjefjaaGreat
