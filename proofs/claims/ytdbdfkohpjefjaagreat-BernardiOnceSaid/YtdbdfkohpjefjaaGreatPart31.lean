/- A part of the proof. -/
import Derived.Test.YtdbdfkohpjefjaaGreatPart25
import Derived.Test.YtdbdfkohpjefjaaGreatPart27
import Derived.Test.YtdbdfkohpjefjaaGreatPart24
import Derived.Test.YtdbdfkohpjefjaaGreatPart26
import Derived.Test.YtdbdfkohpjefjaaGreatPart19
set_option linter.all false
set_option maxHeartbeats 4000000
set_option maxRecDepth 100000
namespace Go.Proofs.YtdbdfkohpjefjaaGreat
open Go.Sp
def mB (l:List Nat):List (MKey×MV):=l.map fun x:Nat=>(.int (x:Int),.c (.bool true))
theorem B9u: ∀(l:List Nat) (x:Nat),x∉l->mIdx (mB l) (.int x)=none
 | [],x,_=>rfl
 | y::l,x,h=>by
  have h1: ¬y=x:=fun e=>h (by simp [e]);have h2:=B9u l x (fun hm=>h (by simp [hm]));unfold mIdx at h2 ⊢;unfold mB at h2 ⊢;simp only [Xk,JW,h2,Option.map_none];rw [if_neg];intro e;have:(MKey.int (y:Int))= .int x:=by simpa using e
  injection this with e;exact h1 (by omega)
theorem C5z {l:List Nat} {x:Nat} (h:x∉l) (z:MV):A6M (mB l) (.int x) z=z:=by
 unfold A6M; rw [B9u l x h]; rfl
theorem C50 {l:List Nat} {x:Nat} (h:x∉l):B2U (mB l) (.int x) (.c (.bool true))=mB (l++[x]):=by
 unfold B2U; rw [B9u l x h]; simp [mB]
theorem C3Q {l:List Nat}: ∀e,e∈mB l->KShape.ok .int e.1=true:=fun e h=>by
 obtain ⟨x,_,rfl⟩:=QJ.1 h;rfl
def C0y (s:Nat->Nat) (T:List Nat) (x:Nat):Nat:=if x / 2∈T then s (oppH x) else s x
theorem B9v (s:Nat->Nat) {T:List Nat} {e:Nat} (he: ¬e∈T):C0y s (T++[e])=A1l (C0y s T) (2*e) (2*e+1):=by
 have e1:oppH (2*e)=2*e+1:=by unfold oppH; omega
 have e2:oppH (2*e+1)=2*e:=by unfold oppH; omega
 have d1:2*e / 2=e:=by omega
 have d2:(2*e+1) / 2=e:=by omega
 funext x;unfold A1l C0y;by_cases h1:x=2*e
 ·subst h1;rw [if_pos (by rw [d1]; simp),if_pos rfl,d2,if_neg he,e1]
 ·by_cases h2:x=2*e+1
  ·subst h2;rw [if_pos (by rw [d2]; simp),if_neg (by omega),if_pos rfl,d1,if_neg he,e2]
  ·rw [if_neg h1,if_neg h2];have h3:x / 2≠e:=by omega
   by_cases h4:x / 2∈T
   ·rw [if_pos (by simp [h4]),if_pos h4]
   ·rw [if_neg (by simp [h4,h3]),if_neg h4]
def pkN (L:List (Int×Int)) (T:List Nat):List (Int×Int):=T.map fun e=>L.getD e (0,0)
theorem B9w (L:List (Int×Int)) (T:List Nat):pkN L T=pkL L (T.map fun e:Nat=>(e:Int)):=by
 unfold pkN pkL;rw [Vv];exact Wk fun e _=>rfl
section
variable {E n:Nat} {L:List (Int×Int)} {s g:Nat->Nat}
theorem Emb.set_tour (h:Emb E n L s g) (hb: ∀x y,x<2*E->y<2*E->(A3C s x y↔g x=g y)) {T:List Nat} (hn:T.Nodup) (hT: ∀e,e∈T->e<E) (ha:A4t (pkN L T)):
  ∀k,k≤T.length->PermN (2*E) (C0y s (T.take k))∧ ∀x y,x<2*E->y<2*E->(A3C (C0y s (T.take k)) x y↔Conn (pkN L (T.take k)) (g x) (g y))
 | 0,_=>by
  have e:C0y s (T.take 0)=s:=by funext x; simp [C0y]
  rw [e];refine ⟨h.perm,fun x y hx hy=> ?_⟩;rw [hb x y hx hy];show _↔Conn [] _ _;exact B2q.symm
 | k+1,hk=>by
  obtain ⟨ih1,ih2⟩:=h.set_tour hb hn hT ha k (by omega);have hkl:k<T.length:=by omega
  have hel:=hT _ (Xw hkl);have htk:T.take (k+1)=T.take k++[T[k]]:=XX hkl;have hne: ¬T[k]∈T.take k:=fun hm=>by
   obtain ⟨j,hj,e⟩:=List.getElem_of_mem hm;rw [Wv] at hj;rw [List.getElem_take] at e;exact Yz.1 hn j k (by omega) hkl (by omega) e
  have hLe:=h.ends T[k] hel;have hpk:pkN L (T.take (k+1))=pkN L (T.take k)++[(((g (2*T[k]):Nat):Int),((g (2*T[k]+1):Nat):Int))]:=by
   rw [htk]; unfold pkN;rw [Jv];simp only [Xk,Zj];rw [Qz,hLe]; rfl
  have hnc: ¬Conn (pkN L (T.take k)) (g (2*T[k])) (g (2*T[k]+1)):=by
   have hg:(pkN L T)[k]? =some (((g (2*T[k]):Nat):Int),((g (2*T[k]+1):Nat):Int)):=by
    unfold pkN;rw [QY,Qq hkl];simp only [Option.map_some];rw [Qz,hLe]; rfl
   have:=ha k _ hg;have e:(pkN L T).take k=pkN L (T.take k):=by unfold pkN; rw [List.map_take]
   rw [e] at this;simpa using this
  rw [hpk,htk,B9v s hne];generalize T[k]=e at*;have hnb: ¬A3C (C0y s (T.take k)) (2*e) (2*e+1):=fun hc=>hnc ((ih2 _ _ (by omega) (by omega)).1 hc);refine ⟨A87 ih1 (by omega) (by omega),fun x y hx hy=> ?_⟩;rw [B7V ih1 (by omega) (by omega) hnb x y hx hy,A4R,ih2 x y hx hy,ih2 _ x (by omega) hx,ih2 _ x (by omega) hx,ih2 _ y (by omega) hy,ih2 _ y (by omega) hy]
end
section
variable {P:Program} {rd:Option Nat} {h:Nat} {Q:Exit->St->Prop} {c:Code} {tm:List AVal} {H:List Blk}
end
end Go.Proofs.YtdbdfkohpjefjaaGreat
