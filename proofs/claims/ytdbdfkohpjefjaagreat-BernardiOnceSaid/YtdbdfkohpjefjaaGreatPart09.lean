/- A part of the proof. -/
import Derived.Test.YtdbdfkohpjefjaaGreatPart04
import Derived.Test.YtdbdfkohpjefjaaGreatPart06
import Derived.Test.YtdbdfkohpjefjaaGreatPart03
set_option linter.all false
set_option maxHeartbeats 4000000
set_option maxRecDepth 100000
namespace Go.Proofs.YtdbdfkohpjefjaaGreat
open Go.Sp
def A0p (l:List Int):List (List Tree):=l.map fun x=>[.int .i64 x]
def A0m (l:List Int):TVal:= .t (.slice (A0p l))
attribute [go_sem] A0m
theorem A0e (l:List Int):(A0p l).length=l.length:=by simp [A0p]
theorem A0u {l:List Int} {i:Nat} {x:Int} (h:l[i]? =some x):(A0p l)[i]? =some [.int .i64 x]:=by simp [A0p,h]
theorem A1p {l:List Int} {r:List Tree} (h:r∈A0p l):r.length=1:=by
 obtain ⟨x,_,rfl⟩:=QJ.1 h; rfl
theorem A2p (l:List Int) (a:Int):A0p l++[[.int .i64 a]]=A0p (l++[a]):=by simp [A0p]
theorem C3o (g:G) (hl:g.es.length<2^30):ACall Tryz.prog 197 [tG g] (.tup [A0k (if checkG g≠0 then 0 else (endsL g.es).length),A0k (checkG g)]):=by
 have h:=B3p g hl;by_cases hc:checkG g≠0
 ·rw [if_pos hc] at h ⊢;refine ACall.of_body Tryz.func197 rfl (by kernel_rfl) ?_;simp only [entry,Tryz.ntmps197,tG];refine zU ?_;refine zR Qw9 (zc h Qw9) Qw9 ?_;simp [A0y,A0x,Blk.cells,ty,Tryz.results197,A0s,A0t,toT,A0d,A0b,A0c,A0a,A0k]
 ·rw [if_neg hc] at h ⊢;refine ACall.of_body Tryz.func197 rfl (by kernel_rfl) ?_;simp only [entry,Tryz.ntmps197,tG];refine zU ?_;refine zR (zc @A02 Qw9) (zc h Qw9) Qw9 ?_;have e:checkG g=0:=by omega
  simp [A0y,A0x,Blk.cells,ty,Tryz.results197,A0s,A0t,toT,A0d,A0b,A0c,A0a,A0k,e]
def A19:List Int->Int->Int
 | [],_=> -1
 | x::xs,v=>if x=v then 0 else if A19 xs v<0 then -1 else A19 xs v+1
theorem B3u (l:List Int) (v:Int): -1≤A19 l v:=by
 induction l with
 | nil=>simp [A19]
 | cons x xs ih=>simp only [A19]; (repeat' split)<;>omega
theorem B1U {l:List Int} {v:Int}: ∀{k:Nat},(∀j,j<k-> ∀x,l[j]? =some x->x≠v)->k≤l.length->A19 l v=if A19 (l.drop k) v<0 then -1 else A19 (l.drop k) v+k:=by
 induction l with
 | nil=>intro k _ hk; simp [A19]
 | cons x xs ih=>
  intro k h hk;cases k with
  | zero=>have:=B3u (x::xs) v; simp only [ZW,Int.natCast_zero]; split<;>omega
  | succ k=>
   have h0:=h 0 (by omega) x rfl;have:=ih (k:=k) (fun j hj y hy=>h (j+1) (by omega) y (by simpa using hy)) (by simpa using hk);simp only [A19,Zw,if_neg h0,this];have h1:=B3u (xs.drop k) v
   (repeat' split)<;>omega
theorem B4D {l:List Int} {v:Int} {k:Nat} (h: ∀j,j<k-> ∀x,l[j]? =some x->x≠v) (hk:k<l.length) (e:l[k]=v):A19 l v=k:=by
 rw [B1U h (by omega),XV hk,A19,if_pos e]; simp
theorem B8d {l:List Int} {v:Int} (h: ∀j,j<l.length-> ∀x,l[j]? =some x->x≠v):A19 l v= -1:=by
 rw [B1U h (QQ _),Vk]; simp [A19]
theorem B4E (l:List Int) (v:Int) (hl:l.length<2^40):ACall Tryz.prog 87 [A0m l,A0k v] (A0k (A19 l v)):=by
 refine ACall.of_body Tryz.func87 rfl (by kernel_rfl) ?_;simp only [entry,Tryz.ntmps87,A0m,A0k];refine zU ?_;refine zR (zc @A0e Qw9) Qw9 Qw9 ?_;refine AWp.loopS (α:=Nat) 19 (fun k=>[(0,.c (.slice (A0p l) .none)),(1,.c (.int .i64 v)),(7,.c (.int .i64 l.length)),(8,.c (.int .i64 (k:Int)))]) (fun k=>[]) (fun k=>k≤l.length∧ ∀j,j<k-> ∀x,l[j]? =some x->x≠v) (fun k=>l.length-k) (0) (hk:=Weak.headL 0 19 [0,1,7,8] zW) (h0:=?_) (round:=fun k hI=>?_)
 ·exact ⟨Xj _,fun j hj=>by omega⟩
 ·obtain ⟨hk,hx⟩:=hI;by_cases hlt:k<l.length
  ·have e1:=A0u (Qq hlt)
   repeat' (first|((first|(refine zT ?_;intro K' hK')|(refine zG ?_ ?_<;>(try refine zH ?_)<;>intro hguard<;>(try exact zX)<;>try intro K' hK'))<;>((try simp+contextual only [go_sem,e1,Int.toNat_natCast,ZX]);(repeat' first|(with_reducible refine hK' _ _ ?_;clear hK' K')|exact zY|with_reducible refine Qw8 ?_ ?_|(with_reducible intro hpath;try exact zP)|(refine hK' _ _ ?_;clear hK' K')|fail);try refine zS ?_))|(refine zE ?_;refine hK _ _ ?_;clear hK K)|(refine zN ?_;try refine zS ?_)|refine zA ?_|(refine zB ?_;intro K hK)|(refine zC ?_ ?_<;>(try refine zH ?_)<;>intro hcond<;>try exact zX)|fail)
   ·have hv:A19 l v=k:=B4D hx hlt (by omega);simp [A0y,A0x,Blk.cells,ty,Tryz.results87,A0s,A0t,toT,A0d,A0b,A0c,A0a,A0k,hv]
   ·refine ⟨k+1,Weak.headN 0 19 [0,1,7,8] zW,?_,?_⟩
    ·refine ⟨hlt,fun j hj x hjx=> ?_⟩;by_cases hjk:j=k
     ·subst hjk; rw [Qq hlt] at hjx; cases hjx; omega
     ·exact hx j (by omega) x hjx
    ·omega
  ·have hv:A19 l v= -1:=B8d (fun j hj=>hx j (by omega));refine zR (zc @ZX Qw9) Qw9 Qw9 ?_;simp [A0y,A0x,Blk.cells,ty,Tryz.results87,A0s,A0t,toT,A0d,A0b,A0c,A0a,A0k,hv]
theorem A7M (l:List Int) (v:Int):0≤A19 l v↔v∈l:=by
 induction l with
 | nil=>simp [A19]
 | cons x xs ih=>
  simp only [A19,Qw];have h1:=B3u xs v;by_cases h:x=v
  ·simp [h]
  ·rw [if_neg h];have: ¬v=x:=fun e=>h e.symm;simp only [this,false_or,<-ih];split<;>omega
theorem A3d (l:List Int) (v:Int) (hl:l.length<2^40):ACall Tryz.prog 39 [A0m l,A0k v] (A0z (decide (v∈l))):=by
 have e:=A7M l v;refine ACall.of_body Tryz.func39 rfl (by kernel_rfl) ?_;simp only [entry,Tryz.ntmps39,A0m,A0k];refine zU ?_;refine zR Qw9 (zc (B4E l v hl) Qw9) Qw9 ?_;simp [A0y,A0x,Blk.cells,ty,Tryz.results39,A0s,A0t,toT,A0d,A0b,A0c,A0a,A0z,e]
theorem B4F (l m:List Int) (hl:l.length<2^40) (hm:m.length<2^40):ACall Tryz.prog 27 [A0m l,A0m m] (A0z (decide (l=m))):=by
 refine ACall.of_body Tryz.func27 rfl (by kernel_rfl) ?_;simp only [entry,Tryz.ntmps27,A0m];refine zU ?_
 repeat' (first|((first|(refine zT ?_;intro K' hK')|(refine zG ?_ ?_<;>(try refine zH ?_)<;>intro hguard<;>(try exact zX)<;>try intro K' hK'))<;>((try simp+contextual only [go_sem,A0e]);(repeat' first|(with_reducible refine hK' _ _ ?_;clear hK' K')|exact zY|with_reducible refine Qw8 ?_ ?_|(with_reducible intro hpath;try exact zP)|(refine hK' _ _ ?_;clear hK' K')|fail);try refine zS ?_))|(refine zE ?_;refine hK _ _ ?_;clear hK K)|(refine zN ?_;try refine zS ?_)|refine zA ?_|(refine zB ?_;intro K hK)|(refine zC ?_ ?_<;>(try refine zH ?_)<;>intro hcond<;>try exact zX)|fail)
 ·have e: ¬l=m:=fun e=>by subst e; omega
  simp [A0y,A0x,Blk.cells,ty,Tryz.results27,A0s,A0t,toT,A0d,A0b,A0c,A0a,A0z,e]
 ·have hlm:l.length=m.length:=by omega
  refine AWp.loopS (α:=Nat) 26 (fun k=>[(0,.c (.slice (A0p l) .none)),(1,.c (.slice (A0p m) .none)),(12,.c (.int .i64 l.length)),(13,.c (.int .i64 (k:Int)))]) (fun k=>[]) (fun k=>k≤l.length∧ ∀j,j<k->l[j]? =m[j]?) (fun k=>l.length-k) (0) (hk:=Weak.headL 0 26 [0,1,12,13] zW) (h0:=?_) (round:=fun k hI=>?_)
  ·exact ⟨Xj _,fun j hj=>by omega⟩
  ·obtain ⟨hk,hx⟩:=hI;by_cases hlt:k<l.length
   ·have hlt2:k<m.length:=by omega
    have e1:=A0u (Qq hlt);have e2:=A0u (Qq hlt2)
    repeat' (first|((first|(refine zT ?_;intro K' hK')|(refine zG ?_ ?_<;>(try refine zH ?_)<;>intro hguard<;>(try exact zX)<;>try intro K' hK'))<;>((try simp+contextual only [go_sem,e1,e2,Int.toNat_natCast,ZX]);(repeat' first|(with_reducible refine hK' _ _ ?_;clear hK' K')|exact zY|with_reducible refine Qw8 ?_ ?_|(with_reducible intro hpath;try exact zP)|(refine hK' _ _ ?_;clear hK' K')|fail);try refine zS ?_))|(refine zE ?_;refine hK _ _ ?_;clear hK K)|(refine zN ?_;try refine zS ?_)|refine zA ?_|(refine zB ?_;intro K hK)|(refine zC ?_ ?_<;>(try refine zH ?_)<;>intro hcond<;>try exact zX)|fail)
    ·have e: ¬l=m:=fun e=>by subst e; omega
     simp [A0y,A0x,Blk.cells,ty,Tryz.results27,A0s,A0t,toT,A0d,A0b,A0c,A0a,A0z,e]
    ·refine ⟨k+1,Weak.headN 0 26 [0,1,12,13] zW,?_,?_⟩
     ·refine ⟨hlt,fun j hj=> ?_⟩;by_cases hjk:j=k
      ·subst hjk; rw [Qq hlt,Qq hlt2]; congr 1
      ·exact hx j (by omega)
     ·omega
   ·have e:l=m:=Zx fun j=>by
     by_cases hj:j<l.length
     ·exact hx j (by omega)
     ·rw [Xq (by omega),Xq (by omega)]
    refine zR (zc @ZX Qw9) Qw9 Qw9 ?_;simp [A0y,A0x,Blk.cells,ty,Tryz.results27,A0s,A0t,toT,A0d,A0b,A0c,A0a,A0z,e]
def B8e (v:Int):List E->Int
 | []=>0
 | x::xs=>(if x.a≠x.b∧(x.a=v∨x.b=v) then x.m else 0)+B8e v xs
def iC (B:List Int):List ACell:=B.map fun x=>ACell.int .i64 x
theorem A12 (B:List Int):(iC B).length=B.length:=by simp [iC]
theorem A9V (B:List Int) (i:Nat) (x:Int):(iC B).set i (.int .i64 x)=iC (B.set i x):=by simp [iC,Qj5]
theorem A1P (n:Nat):A6L [ACell.int .i64 0] n=iC (List.replicate n 0):=by simp [A6L,iC]
theorem B4G (B:List Int):(iC B).mapM A0a=some (B.map fun x=>Tree.int .i64 x):=by
 induction B with
 | nil=>rfl
 | cons x xs ih=>simp only [iC,Xk,JX] at ih ⊢; rw [ih]; rfl
theorem B1V (B:List Int) (i:Nat) (r:List Tree) (m:Nat) (x:Tree) (h1:(A0p B)[i]? =some r) (h2:r[m]? =some x):(B.map fun x=>Tree.int .i64 x)[i*1+m]? =some x:=by
 simp only [A0p,QY] at h1;cases hb:B[i]? with
 | none=>rw [hb] at h1; simp at h1
 | some b=>
  rw [hb] at h1;simp at h1;subst h1;cases m with
  | zero=>simp at h2; simp [hb,h2]
  | succ m=>simp at h2
theorem A6t {B:List Int} {i:Nat} {x:Int} (h:B[i]? =some x):(iC B)[i]? =some (.int .i64 x):=by simp [iC,h]
theorem A1e {m:Nat} {B:List Int}:blkIn m (.box (iC B)):=by
 intro c hc;obtain ⟨p,_,rfl⟩:=QJ.1 hc;exact Qw7
theorem A5n (l:List Int) (i:Nat):(A0p l).take i=A0p (l.take i):=by simp [A0p]
def A00 (ls:List (List Int)):List (List Tree):=ls.map fun l=>[Tree.slice (A0p l)]
def A0R (ls:List (List Int)):TVal:= .t (.slice (A00 ls))
attribute [go_sem] A0R
theorem A0o (ls:List (List Int)):(A00 ls).length=ls.length:=by simp [A00]
theorem A0W {ls:List (List Int)} {i:Nat} {l:List Int} (h:ls[i]? =some l):(A00 ls)[i]? =some [Tree.slice (A0p l)]:=by simp [A00,h]
theorem A3e {ls:List (List Int)} {r:List Tree} (h:r∈A00 ls):r.length=1:=by
 obtain ⟨x,_,rfl⟩:=QJ.1 h; rfl
theorem A5M (ls:List (List Int)) (a:List Int):A00 ls++[[Tree.slice (A0p a)]]=A00 (ls++[a]):=by simp [A00]
theorem C28 (ls:List (List Int)):(ls.map A0p).map (fun r=>[Tree.slice r])=A00 ls:=by simp [A00]
def chI (b:Nat) (ls:List (List Int)):List ACell:=chC b (ls.map A0p)
def chJ (ls:List (List Int)):List Blk:=chB (ls.map A0p)
theorem A2q (b:Nat) (ls:List (List Int)):(chI b ls).length=ls.length:=by simp [chI,B7D]
theorem A8C (ls:List (List Int)):(chJ ls).length=ls.length:=by simp [chJ,C3f]
theorem B8f {b i:Nat} {ls:List (List Int)} {l:List Int} (h:ls[i]? =some l):(chI b ls)[i]? =some (.slice (A0p l) (.chain (i+b))):=B3h (by simp [h])
theorem B4H {b i:Nat} {ls:List (List Int)} {l:List Int} (h:ls[i]? =some l):(chI b ls).drop i= .slice (A0p l) (.chain (i+b))::(chI b ls).drop (i+1):=C0M (by simp [h])
theorem B8g (b i:Nat) (ls:List (List Int)) (l:List Int):(chI b ls).set i (.slice (A0p l) (.chain (i+b)))=chI b (ls.set i l):=by unfold chI; rw [B7E,Qj5]
theorem B8h {i:Nat} {ls:List (List Int)} {l:List Int} (h:ls[i]? =some l):(chJ ls)[i]? =some (.chain l.length 1):=by
 have:=C3g (f:=ls.map A0p) (i:=i) (r:=A0p l) (by simp [h]);rwa [A0e] at this
theorem B8i (i:Nat) (ls:List (List Int)) (l:List Int) {n:Nat} (hn:n=l.length):(chJ ls).set i (.chain n 1)=chJ (ls.set i l):=by
 unfold chJ; rw [C3h _ i (A0p l) (by rw [A0e]; exact hn),Qj5]
theorem A9W {m b:Nat} {ls:List (List Int)} (h:b+ls.length≤m):blkIn m (.box (chI b ls)):=B7F (by simpa using h)
theorem A2j {m:Nat} {ls:List (List Int)}:A1s m (chJ ls):=C4O
theorem A6u {ls:List (List Int)} {n:Nat} (h:ls.length≤n):(chJ ls).take n=chJ ls:=ZJ (by rw [A8C]; exact h)
theorem C3p (b n:Nat):chC b (List.replicate n [])=chI b (List.replicate n []):=by simp [chI,A0p]
theorem C3q (n:Nat):chB (List.replicate n [])=chJ (List.replicate n []):=by simp [chJ,A0p]
theorem B8j (n:Nat):A6L [ACell.nils] n=List.replicate n .nils:=by simp [A6L]
structure R where
 n:Int
 es:List E
 ar:List (List Int)
def R.g (r:R):G:=⟨r.n,r.es⟩
def tR (r:R):TVal:= .agg [.int .i64 r.n,.slice (A0f r.es),.slice (A00 r.ar)]
def B8k (N:Nat) (g:Nat->Int):List Int:=(List.range N).map g
theorem A7N (N:Nat) (g:Nat->Int):(B8k N g).length=N:=by simp [B8k]
theorem B0Q {N i:Nat} (g:Nat->Int) (h:i<N):(B8k N g)[i]? =some (g i):=by simp [B8k,h]
theorem A9X {N:Nat} {g f:Nat->Int} (h: ∀i,i<N->g i=f i):B8k N g=B8k N f:=Wk fun i hi=>h i (XQ.1 hi)
theorem C1f {N i:Nat} (g:Nat->Int) (x:Int) (hi:i<N):(B8k N g).set i x=B8k N (fun j=>if j=i then x else g j):=by
 apply Zx;intro k;by_cases hk:k<N
 ·rw [B0Q _ hk];by_cases e:i=k
  ·subst e; rw [QW (by rw [A7N]; exact hi)]; simp
  ·rw [QX e,B0Q _ hk,if_neg (by omega)]
 ·rw [Xq (by rw [Yw,A7N]; omega),Xq (by rw [A7N]; omega)]
def atL (L:List (Int×Int)) (h:Nat):Int:=if h%2=0 then (L.getD (h / 2) (0,0)).1 else (L.getD (h / 2) (0,0)).2
def ownL (L:List (Int×Int)) (v:Int) (k:Nat):List Int:=((List.range k).filter fun h=>decide (atL L h=v)).map fun h:Nat=>(h:Int)
def A1h (L:List (Int×Int)) (n k:Nat):List (List Int):=(List.range n).map fun v:Nat=>ownL L (v:Int) k
theorem A4M (L:List (Int×Int)) (v:Int) (k:Nat):ownL L v (k+1)=if atL L k=v then ownL L v k++[(k:Int)] else ownL L v k:=by
 unfold ownL;rw [Jq,JJ];by_cases h:atL L k=v<;>simp [h]
theorem A1J {L:List (Int×Int)} {v:Int} {k:Nat} {x:Int}:x∈ownL L v k↔0≤x∧x<k∧atL L x.toNat=v:=by
 unfold ownL;rw [QJ];constructor
 ·rintro ⟨h,hm,rfl⟩;rw [ZV,XQ,decide_eq_true_eq] at hm;exact ⟨by omega,by omega,by simpa using hm.2⟩
 ·rintro ⟨h1,h2,h3⟩;refine ⟨x.toNat,?_,by omega⟩;rw [ZV,XQ,decide_eq_true_eq];exact ⟨by omega,h3⟩
theorem A8D (L:List (Int×Int)) (v:Int) (k:Nat):(ownL L v k).Pairwise (·< ·):=by
 unfold ownL;rw [Jj];exact (List.pairwise_lt_range.filter _).imp fun h=>by omega
theorem A7O (L:List (Int×Int)) (v:Int) (k:Nat):(ownL L v k).length≤k:=by
 unfold ownL;rw [Zq];exact Yk (Jy _ _) (by simp)
theorem A0H (L:List (Int×Int)) (n k:Nat):(A1h L n k).length=n:=by simp [A1h]
theorem A3f {L:List (Int×Int)} {n k v:Nat} (hv:v<n):(A1h L n k)[v]? =some (ownL L (v:Int) k):=by simp [A1h,hv]
theorem B1W (L:List (Int×Int)) (n:Nat):List.replicate n []=A1h L n 0:=by
 rw [A1h,eq_comm,List.eq_replicate_iff];exact ⟨by simp,fun x hx=>by obtain ⟨_,_,rfl⟩:=QJ.1 hx; rfl⟩
theorem B1X {L:List (Int×Int)} {n k v:Nat} (hv:v<n) (h:atL L k=v):A1h L n (k+1)=(A1h L n k).set v (ownL L (v:Int) k++[(k:Int)]):=by
 apply Zx;intro i;by_cases hi:i<n
 ·rw [A3f hi,A4M];by_cases e:v=i
  ·subst e;rw [QW (by rw [A0H]; exact hv),if_pos h]
  ·rw [QX e,A3f hi,if_neg (by omega)]
 ·rw [Xq (by rw [A0H]; omega),Xq (by rw [Yw,A0H]; omega)]
def A3g (own:List Int):List Int->List Int->Int
 | _,[]=>0
 | pre,h::t=>if h∈own then (if h∈pre then 7 else A3g own (pre++[h]) t) else 2
def A1i (l own:List Int):Int:=
 if l.length≠own.length then 8 else if A3g own [] l≠0 then A3g own [] l else if l≠[]∧l.getD 0 0≠own.getD 0 0 then 9 else 0
def A52 (L:List (Int×Int)) (N:Nat):Nat->List (List Int)->Int
 | _,[]=>0
 | v,l::ar=>if A1i l (ownL L (v:Int) N)≠0 then A1i l (ownL L (v:Int) N) else A52 L N (v+1) ar
theorem A7a {own:List Int}: ∀{pre l:List Int},A3g own pre l=0->(∀x,x∈l->x∈own)∧l.Nodup∧ ∀x,x∈l->x∉pre
 | _,[],_=>⟨fun x hx=>(by cases hx),List.nodup_nil,fun x hx=>(by cases hx)⟩
 | pre,h::t,e=>by
  simp only [A3g] at e;split at e
  ·rename_i h1;split at e
   ·omega
   ·rename_i h2;obtain ⟨q1,q2,q3⟩:=A7a e;refine ⟨fun x hx=> ?_,Qz3.2 ⟨fun hm=>q3 h hm (by simp),q2⟩,fun x hx=> ?_⟩
    ·rcases Qw.1 hx with rfl | hx
     ·exact h1
     ·exact q1 x hx
    ·rcases Qw.1 hx with rfl | hx
     ·exact h2
     ·intro hp; exact q3 x hx (by simp [hp])
  ·omega
structure LOk (l own:List Int):Prop where
 nd:l.Nodup
 sub: ∀x,x∈l->x∈own
 sup: ∀x,x∈own->x∈l
 len:l.length=own.length
 hd:l=[]∨l.getD 0 0=own.getD 0 0
theorem C29 {l own:List Int} (h1:l.Nodup) (h2: ∀x,x∈l->x∈own) (h3:l.length=own.length): ∀x,x∈own->x∈l:=by
 intro x hx;apply XZ;intro hn
 have:=Wx (l₁:=x::l) (l₂:=own) (Qz3.2 ⟨hn,h1⟩) (fun y hy=>by
  rcases Qw.1 hy with rfl | hy
  ·exact hx
  ·exact h2 y hy)
 simp at this; omega
theorem B3v {l own:List Int} (h:A1i l own=0):LOk l own:=by
 unfold A1i at h;split at h
 ·omega
 ·rename_i h1;split at h
  ·omega
  ·rename_i h2;split at h
   ·omega
   ·rename_i h3;simp only [ne_eq,Decidable.not_not] at h1 h2;obtain ⟨q1,q2,_⟩:=A7a h2;refine ⟨q2,q1,C29 q2 q1 h1,h1,?_⟩;by_cases e:l=[]
    ·exact .inl e
    ·exact .inr (XZ fun hn=>h3 ⟨e,hn⟩)
theorem A9Y {L:List (Int×Int)} {N:Nat}: ∀{v:Nat} {ar:List (List Int)},A52 L N v ar=0-> ∀i l,ar[i]? =some l->LOk l (ownL L ((v+i:Nat):Int) N)
 | v,[],_,i,l,hl=>by simp at hl
 | v,x::ar,h,i,l,hl=>by
  simp only [A52] at h;split at h
  ·omega
  ·rename_i h1;simp only [ne_eq,Decidable.not_not] at h1;cases i with
   | zero=>simp at hl; subst hl; exact B3v h1
   | succ i=>
    have:=A9Y h i l (by simpa using hl);rwa [show v+1+i=v+(i+1) by omega] at this
def oppH (h:Nat):Nat:=h+1-2*(h%2)
def A8E (l:List Int) (x:Int):Int:=l.getD ((l.idxOf x+1)%l.length) 0
def nextR (L:List (Int×Int)) (ar:List (List Int)) (h:Nat):Int:=A8E (ar.getD (atL L h).toNat []) (h:Int)
def fR (L:List (Int×Int)) (ar:List (List Int)) (h:Nat):Nat:=(nextR L ar (oppH h)).toNat
theorem B4I {α:Type} {l:List α} (hn:l.Nodup) {i j:Nat} (hi:i<l.length) (hj:j<l.length) (e:l[i]=l[j]):i=j:=by
 rw [List.Nodup,Yz] at hn;rcases Qw6 i j with h | h | h
 ·exact absurd e (hn i j hi hj h)
 ·exact h
 ·exact absurd e.symm (hn j i hj hi h)
theorem A33 {l:List Int} {x:Int} (hx:x∈l):l.idxOf x<l.length∧l[l.idxOf x]? =some x:=by
 have h:=List.idxOf_lt_length_of_mem hx;exact ⟨h,by rw [Qq h,List.getElem_idxOf h]⟩
theorem B8l {l:List Int} {x:Int} (hx:x∈l):A8E l x∈l:=by
 have h:=(A33 hx).1;unfold A8E;rw [Qz,Qq (VZ _ (by omega))];exact Xw _
theorem B8m {l:List Int} (hn:l.Nodup) {x y:Int} (hx:x∈l) (hy:y∈l) (e:A8E l x=A8E l y):x=y:=by
 obtain ⟨h1,h2⟩:=A33 hx;obtain ⟨h3,h4⟩:=A33 hy;have m1:(l.idxOf x+1)%l.length<l.length:=VZ _ (by omega);have m2:(l.idxOf y+1)%l.length<l.length:=VZ _ (by omega);unfold A8E at e;rw [Qz,Qq m1,Qz,Qq m2] at e;simp only [Option.getD_some] at e;have e2:=B4I hn m1 m2 e;have key: ∀a b c:Nat,a<c->b<c->(a+1)%c=(b+1)%c->a=b:=fun a b c ha hb hab=>by
  by_cases q1:a+1=c
  ·by_cases q2:b+1=c
   ·omega
   ·rw [q1,Nat.mod_self,Vx (by omega)] at hab; omega
  ·by_cases q2:b+1=c
   ·rw [q2,Nat.mod_self,Vx (by omega)] at hab; omega
   ·rw [Vx (by omega),Vx (by omega)] at hab; omega
 have e3:=key _ _ _ h1 h3 e2;rw [<-Jk,<-h2,<-h4,e3]
theorem B1Y (x:Int):ACall Tryz.prog 143 [A0k x] (A0z false):=by
 refine ACall.of_body Tryz.func143 rfl (by kernel_rfl) ?_;simp only [entry,Tryz.ntmps143,A0k];refine zU ?_;refine zR Qw9 Qw9 Qw9 ?_;simp [A0y,A0x,Blk.cells,ty,Tryz.results143,A0s,A0t,toT,A0d,A0b,A0c,A0a,A0z]
theorem A8F (x:Int):ACall Tryz.prog 199 [A0k x] (A0z false):=by
 refine ACall.of_body Tryz.func199 rfl (by kernel_rfl) ?_;simp only [entry,Tryz.ntmps199,A0k];refine zU ?_;refine zR Qw9 Qw9 Qw9 ?_;simp [A0y,A0x,Blk.cells,ty,Tryz.results199,A0s,A0t,toT,A0d,A0b,A0c,A0a,A0z]
theorem C3r (x y:Int):ACall Tryz.prog 198 [A0k x,A0k y] (A0z (decide (x<y))):=by
 refine ACall.of_body Tryz.func198 rfl (by kernel_rfl) ?_;simp only [entry,Tryz.ntmps198,A0k];refine zU ?_;refine zR Qw9 (zc (B1Y x) (zc (B1Y y) Qw9)) Qw9 ?_;simp [A0y,A0x,Blk.cells,ty,Tryz.results198,A0s,A0t,toT,A0d,A0b,A0c,A0a,A0z]
theorem C3s (x:Int):x.fdiv (2^min 1 IntKind.u64.bits)=x / 2:=by
 rw [show (2:Int)^min 1 IntKind.u64.bits=2 by decide];exact Int.fdiv_eq_ediv_of_nonneg _ (by omega)
theorem C4Z (x:Int):x.fdiv (2^min 1 64)=x / 2:=C3s x
def loI:List Int->Int->Nat
 | [],_=>0
 | y::ys,x=>if y<x then loI ys x+1 else 0
theorem C2A: ∀{l:List Int} {x:Int} {i:Nat},i≤l.length->(∀k (h:k<l.length),k<i->l[k]<x)->(∀h:i<l.length,¬l[i]<x)->loI l x=i
 | [],x,i,h,_,_=>by simp at h; simp [loI,h]
 | y::ys,x,i,h,h1,h2=>by
  simp only [loI];cases i with
  | zero=>exact if_neg (h2 (by simp))
  | succ i=>
   rw [if_pos (show y<x from h1 0 (by simp) (by omega)),C2A (i:=i) (by simpa using h) (fun k hk hki=>h1 (k+1) (by simpa using hk) (by omega)) (fun hi=>h2 (by simpa using hi))]
theorem C3t (l:List Int) (x:Int) (hs:l.Pairwise (·< ·)) (hl:l.length<2^40):
  ACall Tryz.prog 182 [A0m l,A0k x] (.tup [A0k (loI l x),A0z (decide (x∈l))]):=by
 rw [Yz] at hs;refine ACall.of_body Tryz.func182 rfl (by kernel_rfl) ?_;simp only [entry,Tryz.ntmps182,A0m,A0k];refine zU ?_;refine zR (zc @A0e Qw9) Qw9 Qw9 ?_;refine AWp.loopS (α:=(Nat×Nat)) 54 (fun s=>[(0,.c (.slice (A0p l) .none)),(1,.c (.int .i64 x)),(6,.c (.int .i64 l.length)),(7,.c (.int .i64 (s.1:Int))),(8,.c (.int .i64 (s.2:Int)))]) (fun s=>[]) (fun s=>s.1≤s.2∧s.2≤l.length∧(∀k (h:k<l.length),k<s.1->l[k]<x)∧(∀k (h:k<l.length),s.2≤k-> ¬l[k]<x)) (fun s=>s.2-s.1) ((0,l.length)) (hk:=Weak.headL 0 54 [0,1,6,7,8] zW) (h0:=?_) (round:=fun s hI=>?_)
 ·exact ⟨Xj _,QQ _,fun k h hk=>absurd hk (Nat.not_lt_zero _),fun k h hk=>by omega⟩
 ·obtain ⟨i,j⟩:=s;obtain ⟨hij,hj,h1,h2⟩:=hI;simp only at hij hj h1 h2 ⊢;by_cases hlt:i<j
  ·have hd:((i:Int)+(j:Int)) / 2=(((i+j) / 2:Nat):Int):=by omega
   have hm1:i≤(i+j) / 2:=by omega
   have hm2:(i+j) / 2<j:=by omega
   generalize (i+j) / 2=m at*;have hml:m<l.length:=by omega
   have e1:=A0u (Qq hml);generalize hy:l[m]=y at*;have hcall:=C3r y x;by_cases hlt2:y<x
   ·rw [decide_eq_true hlt2] at hcall;refine zR (zc @e1 (zc @C3s (zc @C4Z (zc @hd (zc @ZX (zc @A0e Qw9)))))) (zc hcall Qw9) Qw9 ?_;refine ⟨(m+1,j),Weak.headN 0 54 [0,1,6,7,8] zW,?_,?_⟩
    ·refine ⟨hm2,hj,fun k hk hki=> ?_,h2⟩;by_cases e:k=m
     ·subst e; rw [hy]; exact hlt2
     ·have:=hs k m hk hml (by omega);omega
    ·simp only; omega
   ·rw [decide_eq_false hlt2] at hcall;refine zR (zc @e1 (zc @C3s (zc @C4Z (zc @hd (zc @ZX (zc @A0e Qw9)))))) (zc hcall Qw9) Qw9 ?_;refine ⟨(i,m),Weak.headN 0 54 [0,1,6,7,8] zW,?_,?_⟩
    ·refine ⟨hm1,by omega,h1,fun k hk hki=> ?_⟩;by_cases e:k=m
     ·subst e; rw [hy]; exact hlt2
     ·have:=hs m k hml hk (by omega);omega
    ·simp only; omega
  ·have eij:i=j:=by omega
   subst eij;have hlo:loI l x=i:=C2A hj h1 (fun h=>h2 i h (QQ _));rw [hlo];by_cases hil:i<l.length
   ·have e0:=Qq hil;have e1:=A0u e0;have hf:x∈l↔l[i]=x:=by
     constructor
     ·intro hm;obtain ⟨k,hk,e⟩:=YJ.1 hm;rcases Qw6 k i with h | h | h
      ·have:=h1 k hk h; omega
      ·subst h; exact e
      ·have:=hs i k hil hk h; have:=h2 i hil (QQ _); omega
     ·intro e; rw [<-e]; exact Xw hil
    generalize hy:l[i]=y at*;rw [decide_eq_decide.2 hf];by_cases hxy:y=x
    ·subst hxy;refine zR (zc @e1 (zc @ZX (zc @A0e (zc @hil Qw9)))) (zc (A8F y) Qw9) Qw9 ?_;simp [A0y,A0x,Blk.cells,ty,Tryz.results182,A0s,A0t,toT,A0d,A0b,A0c,A0a,A0k,A0z]
    ·rw [decide_eq_false hxy];refine zR (zc @e1 (zc @ZX (zc @A0e (zc @hil (zc @hxy Qw9))))) (zc (A8F y) (zc (A8F x) Qw9)) Qw9 ?_;simp [A0y,A0x,Blk.cells,ty,Tryz.results182,A0s,A0t,toT,A0d,A0b,A0c,A0a,A0k,A0z]
   ·have hf: ¬x∈l:=fun hm=>by
     obtain ⟨k,hk,e⟩:=YJ.1 hm;have:=h1 k hk (by omega); omega
    rw [decide_eq_false hf];refine zR (zc @ZX (zc @A0e (zc @hil Qw9))) Qw9 Qw9 ?_;simp [A0y,A0x,Blk.cells,ty,Tryz.results182,A0s,A0t,toT,A0d,A0b,A0c,A0a,A0k,A0z]
theorem A9Z {own pre t:List Int} {h:Int} (h1:h∈own) (h2:h∉pre):A3g own pre (h::t)=A3g own (pre++[h]) t:=by
 simp only [A3g]; rw [if_pos h1,if_neg h2]
theorem C3u (l own:List Int) (hs:own.Pairwise (·< ·)) (hl:l.length<2^40) (ho:own.length<2^40):ACall Tryz.prog 154 [A0m l,A0m own] (A0k (A1i l own)):=by
 refine ACall.of_body Tryz.func154 rfl (by kernel_rfl) ?_;simp only [entry,Tryz.ntmps154,A0m];refine zU ?_;by_cases hlen:l.length=own.length
 case neg=>
  have hlI: ¬((l.length:Int)=own.length):=by omega
  have e:A1i l own=8:=by unfold A1i; exact if_pos hlen
  rw [e];refine zR (zc @A0e (zc @hlI Qw9)) Qw9 Qw9 ?_;simp [A0y,A0x,Blk.cells,ty,Tryz.results154,A0s,A0t,toT,A0d,A0b,A0c,A0a,A0k]
 have hlI:((l.length:Int)=own.length):=by omega
 refine zR (zc @A0e (zc @hlI Qw9)) Qw9 Qw9 ?_;refine AWp.loopS (α:=Nat) 47 (fun i=>[(0,.c (.slice (A0p l) .none)),(1,.c (.slice (A0p own) .none)),(14,.c (.slice (A0p l) .none)),(15,.c (.int .i64 (own.length:Int))),(16,.c (.int .i64 (i:Int)))]) (fun i=>[]) (fun i=>i≤l.length∧A3g own [] l=A3g own (l.take i) (l.drop i)) (fun i=>l.length-i) (0) (hk:=Weak.headL 0 47 [0,1,14,15,16] zW) (h0:=?_) (round:=fun i hI=>?_)
 ·exact ⟨Xj _,rfl⟩
 ·obtain ⟨hi,hI⟩:=hI;by_cases hlt:i<l.length
  ·have hltI:(i:Int)<own.length:=by omega
   have e0:=Qq hlt;have e1:=A0u e0;have hd:=XV hlt;have htk:l.take (i+1)=l.take i++[l[i]]:=XX hlt;generalize l[i]=x at*;have hB:=C3t own x hs ho;by_cases hm:x∈own
   case neg=>
    rw [decide_eq_false hm] at hB;have hg:A3g own [] l=2:=by rw [hI,hd]; simp only [A3g]; rw [if_neg hm]
    have e:A1i l own=2:=by unfold A1i; rw [if_neg (by omega),hg]; rfl
    rw [e];refine zR (zc @hltI (zc @A0e (zc @e1 Qw9))) (zc hB Qw9) Qw9 ?_;simp [A0y,A0x,Blk.cells,ty,Tryz.results154,A0s,A0t,toT,A0d,A0b,A0c,A0a,A0k]
   rw [decide_eq_true hm] at hB;have hC:=A3d (l.take i) x (by rw [Wv]; omega);by_cases hc:x∈l.take i
   ·have hg:A3g own [] l=7:=by rw [hI,hd]; simp only [A3g]; rw [if_pos hm,if_pos hc]
    have e:A1i l own=7:=by unfold A1i; rw [if_neg (by omega),hg]; rfl
    rw [e];rw [decide_eq_true hc] at hC;refine zR (zc @hltI (zc @A0e (zc @e1 (zc @A5n (zc @ZX (zc @hlt Qw9)))))) (zc hB (zc hC Qw9)) @A1p ?_;simp [A0y,A0x,Blk.cells,ty,Tryz.results154,A0s,A0t,toT,A0d,A0b,A0c,A0a,A0k]
   ·rw [decide_eq_false hc] at hC;refine zR (zc @hltI (zc @A0e (zc @e1 (zc @A5n (zc @ZX (zc @hlt Qw9)))))) (zc hB (zc hC Qw9)) @A1p ?_;refine ⟨i+1,Weak.headN 0 47 [0,1,14,15,16] zW,?_,?_⟩
    ·refine ⟨hlt,?_⟩;rw [hI,hd,A9Z hm hc,<-htk]
    ·omega
  ·have ei:i=l.length:=by omega
   have hg:A3g own [] l=0:=by rw [hI,ei,Vk]; rfl
   have hnl: ¬((i:Int)<own.length):=by omega
   by_cases hne:l=[]
   ·have e:A1i l own=0:=by
     unfold A1i; rw [if_neg (by omega),if_neg (by omega),if_neg (fun h=>h.1 hne)]
    rw [e];subst hne;refine zR (zc @hnl (zc @A0e Qw9)) Qw9 Qw9 ?_;simp [A0y,A0x,Blk.cells,ty,Tryz.results154,A0s,A0t,toT,A0d,A0b,A0c,A0a,A0k]
   ·have hp:0<l.length:=Ww.2 hne;have hpo:0<own.length:=by omega
    have hpI:(0:Int)<own.length:=by omega
    have e1:=Qq hp;have e2:=Qq hpo;have r1:=A0u e1;have r2:=A0u e2;have d1:l.getD 0 0=l[0]:=by rw [Qz,e1]; rfl
    have d2:own.getD 0 0=own[0]:=by rw [Qz,e2]; rfl
    have e:A1i l own=if l[0]=own[0] then 0 else 9:=by
     unfold A1i;rw [if_neg (by omega),if_neg (by omega),d1,d2];by_cases h:l[0]=own[0]
     ·rw [if_pos h,if_neg (fun h2=>h2.2 h)]
     ·rw [if_neg h,if_pos ⟨hne,h⟩]
    rw [e];generalize l[0]=x at*;generalize own[0]=y at*;by_cases hxy:x=y
    ·rw [if_pos hxy];refine zR (zc @hnl (zc @A0e (zc @hlI (zc @hpI (zc @r1 (zc @r2 (zc @hxy (zc @Int.toNat_zero Qw9)))))))) Qw9 Qw9 ?_;simp [A0y,A0x,Blk.cells,ty,Tryz.results154,A0s,A0t,toT,A0d,A0b,A0c,A0a,A0k]
    ·rw [if_neg hxy];refine zR (zc @hnl (zc @A0e (zc @hlI (zc @hpI (zc @r1 (zc @r2 (zc @hxy (zc @Int.toNat_zero Qw9)))))))) Qw9 Qw9 ?_;simp [A0y,A0x,Blk.cells,ty,Tryz.results154,A0s,A0t,toT,A0d,A0b,A0c,A0a,A0k]
def B3w (l:List Int):Nat->Nat
 | 0=>0
 | k+1=>if l.getD (k+1) 0<l.getD (B3w l k) 0 then k+1 else B3w l k
def C2B (l:List Int):Nat:=B3w l (l.length-1)
def C5a (l:List Int):List Int:=l.drop (C2B l)++l.take (C2B l)
def facesR (r:R):List (List Nat):=if (endsL r.es).length=0 then [[]] else C27 (fR (endsL r.es) r.ar) (2*(endsL r.es).length) (2*(endsL r.es).length)
def genusR (r:R):Int:=Int.tdiv (2-r.n+(endsL r.es).length-(facesR r).length) 2
theorem B3x (pre mid post new:List ACell) (h:new.length=mid.length):setMany (pre++mid++post) pre.length new=pre++new++post:=by
 apply Zx;intro i;rw [A2k _ _ _ _ (by simp; omega)];by_cases h1:i<pre.length
 ·rw [if_neg (by omega),Zk,Zk,Qv h1,Qv h1]
 ·by_cases h2:i<pre.length+new.length
  ·rw [if_pos ⟨by omega,h2⟩,Zk,QV (by omega),Qv (by omega)]
  ·rw [if_neg (by omega),QV (by simp; omega),QV (l₁:=pre++new) (by simp; omega)];simp [h]
theorem A7b (l:List Int):flatRows (A0p l)=iC l:=by
 unfold flatRows A0p iC
 induction l with
 | nil=>rfl
 | cons x l ih=>simp only [Xk,List.flatten_cons,Jv,ih]; rfl
theorem B1Z (a b:List Int):iC (a++b)=iC a++iC b:=by simp [iC]
theorem B8n (n:Nat) (x:Int):iC (List.replicate n x)=List.replicate n (.int .i64 x):=by simp [iC]
end Go.Proofs.YtdbdfkohpjefjaaGreat
