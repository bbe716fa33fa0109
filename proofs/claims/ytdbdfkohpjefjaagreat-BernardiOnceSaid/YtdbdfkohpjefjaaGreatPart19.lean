/- A part of the proof. -/
import Derived.Test.YtdbdfkohpjefjaaGreatPart14
import Derived.Test.YtdbdfkohpjefjaaGreatPart15
set_option linter.all false
set_option maxHeartbeats 4000000
set_option maxRecDepth 100000
namespace Go.Proofs.YtdbdfkohpjefjaaGreat
open Go.Sp
def A7h (T:List (List Int)):List (List Tree):=(T.map fun r=>Tree.slice (A0p r)).map fun t=>[t]
def C6j (T:List (List Int)):TVal:= .t (.slice (A7h T))
attribute [go_sem] C6j
theorem B3F {T:List (List Int)} {i:Nat} {r:List Int} (h:T[i]? =some r):(A7h T)[i]? =some [.slice (A0p r)]:=by simp [A7h,h]
def cellT (T:List (List Int)) (a b:Nat):Int:=(T.getD a []).getD b 0
structure Sq (n:Nat) (T:List (List Int)):Prop where
 len:T.length=n
 row: ∀r,r∈T->r.length=n
theorem Sq.get {n:Nat} {T:List (List Int)} (h:Sq n T) {a b:Nat} (ha:a<n) (hb:b<n): ∃r,T[a]? =some r∧r.length=n∧r[b]? =some (cellT T a b):=by
 have hal:a<T.length:=by rw [h.len]; exact ha
 have hrl:=h.row _ (Xw hal);refine ⟨T[a],Qq hal,hrl,?_⟩;unfold cellT;rw [Qz (l:=T),Qq hal,Option.getD_some,Qz,Qq (by omega)]; rfl
def B0V (f:Nat->Int) (a b:Nat):List E:=(List.range b).filterMap fun j=>if a≤j∧0<f j then some ⟨a,j,f j⟩ else none
def A3p (f:Nat->Nat->Int) (n a:Nat):List E:=(List.range a).flatMap fun i=>B0V (f i) i n
theorem B2h (f:Nat->Int) (a b:Nat):B0V f a (b+1)=B0V f a b++(if a≤b∧0<f b then [⟨a,b,f b⟩] else []):=by
 simp only [B0V,Jq,Qx9];congr 1;by_cases h:a≤b∧0<f b<;>simp [h]
@[simp] theorem C4C (f:Nat->Int) (a:Nat):B0V f a a=[]:=by
 simp only [B0V,List.filterMap_eq_nil_iff,XQ];intro j hj;rw [if_neg (by omega)]
theorem A3P (f:Nat->Nat->Int) (n a:Nat):A3p f n (a+1)=A3p f n a++B0V (f a) a n:=by simp [A3p,Jq]
theorem B4R (f:Nat->Int) (a b:Nat):(B0V f a b).length≤b:=by
 have:=List.length_filterMap_le (fun j=>if a≤j∧0<f j then some (⟨a,j,f j⟩:E) else none) (List.range b);simpa [B0V] using this
theorem B8K (f:Nat->Nat->Int) (n a:Nat):(A3p f n a).length≤a*n:=by
 induction a with
 | zero=>simp [A3p]
 | succ a ih=>
  have:=B4R (f a) a n;rw [A3P,Xv,VY]; omega
theorem B3G {f g:Nat->Nat->Int} {n:Nat} (h: ∀a b,a≤b->b<n->f a b=g a b): ∀a,a≤n->A3p f n a=A3p g n a:=by
 intro a
 induction a with
 | zero=>intro _; rfl
 | succ a ih=>
  intro ha;rw [A3P,A3P,ih (by omega)];congr 1;unfold B0V;have: ∀l:List Nat,(∀j,j∈l->j<n)->(l.filterMap fun j=>if a≤j∧0<f a j then some (⟨a,j,f a j⟩:E) else none)=l.filterMap fun j=>if a≤j∧0<g a j then some (⟨a,j,g a j⟩:E) else none:=by
   intro l
   induction l with
   | nil=>intro _; rfl
   | cons j l ih2=>
    intro hl;rw [List.filterMap_cons,List.filterMap_cons,ih2 fun x hx=>hl x (by simp [hx])];by_cases hj:a≤j
    ·rw [h a j hj (hl j (by simp))]
    ·rw [if_neg (by omega),if_neg (by omega)]
  exact this _ fun j hj=>XQ.1 hj
theorem B8L (n:Nat) (T:List (List Int)) (hn:n≤12) (hT:Sq n T):ACall Tryz.prog 195 [A0k n,C6j T] (tG ⟨n,A3p (cellT T) n n⟩):=by
 have htl:=hT.len;refine ACall.of_body Tryz.func195 rfl (by kernel_rfl) ?_;simp only [entry,Tryz.ntmps195,A0k,C6j];refine zU ?_;refine zR Qw9 Qw9 Qw9 ?_;refine AWp.weak (Weak.openB 1 1 3 rfl rfl (by omega)) ?_;simp only [List.set_cons_succ,List.set_cons_zero,List.length_cons,List.length_nil,Xv,Nat.reduceAdd,List.cons_append,List.nil_append];have hj0:A3p (cellT T) n 0=[]:=rfl;refine AWp.loopS (α:=Nat) 45 (fun a=>[(0,.c (.int .i64 (n:Int))),(1,.c (.slice (A7h T) .none)),(4,.c (.ptr 0 0)),(5,.c (.ptr 1 0)),(6,.c (.int .i64 (a:Int)))]) (fun a=>[.box [.int .i64 0,.nils],.box [.int .i64 (n:Int),.slice (A0f (A3p (cellT T) n a)) (.chain 2)],.chain (A3p (cellT T) n a).length 3]) (fun a=>a≤n) (fun a=>n-a) (0) (hk:=Weak.headL 3 45 [0,1,4,5,6] zW) (h0:=?_) (round:=fun a hI=>?_)
 ·exact Xj _
 ·have ha:a≤n:=hI;clear hI;by_cases hlt:a<n
  ·have hltI:(a:Int)<n:=by omega
   have hA:=A3P (cellT T) n a;have hjl:=B8K (cellT T) n a;have hjl2:a*n≤12*12:=Nat.mul_le_mul (by omega) hn;refine zR (zc @hltI Qw9) Qw9 Qw9 ?_;refine AWp.loopS (α:=Nat) 45 (fun b=>[(0,.c (.int .i64 (n:Int))),(1,.c (.slice (A7h T) .none)),(4,.c (.ptr 0 0)),(5,.c (.ptr 1 0)),(6,.c (.int .i64 (a:Int))),(7,.c (.int .i64 (b:Int)))]) (fun b=>[.box [.int .i64 0,.nils],.box [.int .i64 (n:Int),.slice (A0f (A3p (cellT T) n a++B0V (cellT T a) a b)) (.chain 2)],.chain (A3p (cellT T) n a++B0V (cellT T a) a b).length 3]) (fun b=>a≤b∧b≤n) (fun b=>n-b) (a) (hk:=Weak.headL 3 45 [0,1,4,5,6,7] zW) (h0:=?_) (round:=fun b hI=>?_)
   ·exact ⟨QQ _,ha⟩
   ·obtain ⟨hab,hb⟩:=hI;by_cases hltb:b<n
    ·have hltbI:(b:Int)<n:=by omega
     obtain ⟨r,e1,e2,e3⟩:=hT.get hlt hltb;have f1:=B3F e1;have f2:=A0u e3;have hR:=B2h (cellT T a) a b;have hrl:=B4R (cellT T a) a b;have hLs:A3p (cellT T) n a++B0V (cellT T a) a (b+1)=(A3p (cellT T) n a++B0V (cellT T a) a b)++(if a≤b∧0<cellT T a b then [⟨a,b,cellT T a b⟩] else []):=by rw [hR,Zk]
     have hLl:(A3p (cellT T) n a++B0V (cellT T a) a b).length≤200:=by rw [Xv]; omega
     generalize A3p (cellT T) n a++B0V (cellT T a) a b=L at*;generalize hx:cellT T a b=x at*;by_cases hp:0<x
     ·rw [if_pos ⟨hab,hp⟩] at hLs;have hsn:=A9S L ⟨a,b,x⟩;refine zRc (zc @hltbI (zc @f1 (zc @f2 (zc @hp (zc @A06 (zc @hsn Qw9)))))) Qw9 @A6r ?_;refine ⟨b+1,Weak.headF 3 45 [0,1,4,5,6,7] (zc @hLs Qw9) zW,?_,?_⟩
      ·exact ⟨by omega,hltb⟩
      ·omega
     ·rw [if_neg (by omega),WZ] at hLs;refine zR (zc @hltbI (zc @f1 (zc @f2 (zc @hp Qw9)))) Qw9 Qw9 ?_;refine ⟨b+1,Weak.headF 3 45 [0,1,4,5,6,7] (zc @hLs Qw9) zW,?_,?_⟩
      ·exact ⟨by omega,hltb⟩
      ·omega
    ·have eb:b=n:=by omega
     have hnl: ¬((b:Int)<n):=by omega
     rw [eb];rw [eb] at hnl;refine zR (zc @hnl Qw9) Qw9 Qw9 ?_;refine ⟨a+1,Weak.headF 3 45 [0,1,4,5,6] (zc @hA Qw9) zW,?_,?_⟩
     ·exact hlt
     ·omega
  ·have ea:a=n:=by omega
   subst ea;have hnl: ¬((a:Int)<a):=by omega
   refine zR (zc @hnl Qw9) Qw9 Qw9 ?_;simp [A0y,A0x,Blk.cells,ty,Tryz.results195,A0s,A0t,toT,A0d,A0b,A0c,A0a,tG]
def B4S (r:List Int):List Tree:=r.map fun x=>Tree.int .i64 x
def roB (r:List Int):Blk:= .ro (B4S r)
section
variable {P:Program} {rd:Option Nat} {h:Nat} {Q:Exit->St->Prop} {c:Code} {tm:List AVal}
theorem B6y (pre:List Blk) (t:Nat) (tok:Tok) (n:Nat) (T:List (List Int)) (hT:Sq n T) (ht:tm[t]? =some (.c (.rows (A4c pre.length n n) tok)))
  (hw:AWp P rd h c Q ⟨tm.set t (.c (.slice (A7h T) .none)),pre++T.map roB⟩):AWp P rd h c Q ⟨tm,pre++T.map rowB⟩:=by
 have e1:T.map rowB=(T.map fun r=>(iC r,B4S r)).map fun p=>Blk.box p.1:=by rw [Vv]; rfl
 have e2:T.map roB=(T.map fun r=>(iC r,B4S r)).map fun p=>Blk.ro p.2:=by rw [Vv]; rfl
 rw [e1];refine AWp.freezeL _ pre (fun p hp=> ?_) ?_
 ·obtain ⟨r,_,rfl⟩:=QJ.1 hp;exact B4G r
 rw [<-e2];refine AWp.rowsData t (A4c pre.length n n) tok (T.map fun r=>Tree.slice (A0p r)) ht (by rw [A8N,Zq,hT.len]) (fun i r hr=> ?_) hw;have hi:i<n:=by have:=(Qx.1 hr).1; rwa [A8N] at this
 rw [A8O hi] at hr;cases hr;have hil:i<T.length:=by rw [hT.len]; exact hi
 have hrl:=hT.row _ (Xw hil);refine ⟨_,.slice (A0p T[i]),rfl,by rw [QY,Qq hil]; rfl,fun ι σ w u hH hu=> ?_⟩;refine C0H (ts:=B4S T[i]) hH ?_ hu (by rw [A0e]; exact hrl) (QQ _) (fun r hr=>A1p hr) (B1V T[i]);rw [QV (by omega),Nat.add_sub_cancel,QY,Qq hil]; rfl
end
theorem B8M {T:List (List Int)} {i:Nat} {r:List Int} (h:T[i]? =some r):(T.map rowB)[i]? =some (.box (iC r)):=by rw [QY,h]; rfl
theorem C36 (T:List (List Int)) (i:Nat) (r:List Int):(T.map rowB).set i (.box (iC r))=(T.set i r).map rowB:=by rw [Qj5]; rfl
def A5U (n:Nat) (g:Nat->Nat->Int):List (List Int):=(List.range n).map fun a=>(List.range n).map fun b=>g a b
theorem A5Q (n:Nat) (g:Nat->Nat->Int):Sq n (A5U n g):=⟨by simp [A5U],fun r hr=>by obtain ⟨a,_,rfl⟩:=QJ.1 hr; simp⟩
@[simp] theorem C5i (n:Nat) (g:Nat->Nat->Int):(A5U n g).take n=A5U n g:=ZJ (by rw [(A5Q n g).len]; exact QQ _)
@[simp] theorem C5S (n:Nat) (g:Nat->Nat->Int):((A5U n g).map rowB).take n=(A5U n g).map rowB:=ZJ (by rw [Zq,(A5Q n g).len]; exact QQ _)
theorem A61 {n:Nat} (g:Nat->Nat->Int) {a:Nat} (ha:a<n):(A5U n g)[a]? =some ((List.range n).map fun b=>g a b):=by simp [A5U,ha]
theorem B8N {n:Nat} (g:Nat->Nat->Int) {a b:Nat} (ha:a<n) (hb:b<n):cellT (A5U n g) a b=g a b:=by
 unfold cellT;rw [Qz (l:=A5U n g),A61 g ha,Option.getD_some,Qz]; simp [hb]
theorem B6z {n:Nat} {g f:Nat->Nat->Int} (h: ∀a b,a<n->b<n->g a b=f a b):A5U n g=A5U n f:=by
 unfold A5U;refine Wk fun a ha=>Wk fun b hb=>h a b (XQ.1 ha) (XQ.1 hb)
theorem C1y {n:Nat} (g:Nat->Nat->Int) {a b:Nat} (ha:a<n) (hb:b<n) (x:Int):(A5U n g).set a (((List.range n).map fun b=>g a b).set b x)=A5U n (fun i j=>if i=a∧j=b then x else g i j):=by
 apply Zx;intro i;by_cases hi:i<n
 ·rw [A61 _ hi];by_cases e:a=i
  ·subst e;rw [QW (by rw [(A5Q n g).len]; exact ha)];congr 1;apply Zx;intro j;by_cases e2:b=j
   ·subst e2; rw [QW (by simpa using hb)]; simp [hb]
   ·rw [QX e2];by_cases hj:j<n
    ·simp [hj,Ne.symm e2]
    ·simp [hj]
  ·rw [QX e,A61 _ hi];congr 1;refine Wk fun j _=> ?_;rw [if_neg (by omega)]
 ·rw [Xq (by rw [Yw,(A5Q n g).len]; omega),Xq (by rw [(A5Q n _).len]; omega)]
theorem C37 (n:Nat) (g:Nat->Nat->Int) (h: ∀a b,g a b=0):List.replicate n (rowB (List.replicate n 0))=(A5U n g).map rowB:=by
 have e:A5U n g=List.replicate n (List.replicate n 0):=by
  unfold A5U;rw [List.eq_replicate_iff];refine ⟨by simp,fun r hr=> ?_⟩;obtain ⟨a,_,rfl⟩:=QJ.1 hr;rw [List.eq_replicate_iff];refine ⟨by simp,fun x hx=> ?_⟩;obtain ⟨b,_,rfl⟩:=QJ.1 hx;exact h a b
 rw [e,List.map_replicate]
theorem B0W {f:Nat->Int} {a b:Nat} {x:E}:x∈B0V f a b↔ ∃j,j<b∧a≤j∧0<f j∧x=⟨a,j,f j⟩:=by
 simp only [B0V,List.mem_filterMap,XQ];constructor
 ·rintro ⟨j,hj,h⟩;split at h
  ·rename_i hc; cases h; exact ⟨j,hj,hc.1,hc.2,rfl⟩
  ·cases h
 ·rintro ⟨j,hj,h1,h2,rfl⟩;exact ⟨j,hj,by rw [if_pos ⟨h1,h2⟩]⟩
theorem B2i {f:Nat->Nat->Int} {n a:Nat} {x:E}:x∈A3p f n a↔ ∃i j,i<a∧j<n∧i≤j∧0<f i j∧x=⟨i,j,f i j⟩:=by
 simp only [A3p,Jz,XQ,B0W];constructor
 ·rintro ⟨i,hi,j,h⟩; exact ⟨i,j,hi,h⟩
 ·rintro ⟨i,j,hi,h⟩; exact ⟨i,hi,j,h⟩
theorem B3H (f:Nat->Int) (a b:Nat):(B0V f a b).Pairwise ltE:=by
 induction b with
 | zero=>exact List.Pairwise.nil
 | succ b ih=>
  rw [B2h,Qq9];refine ⟨ih,by split<;>simp,fun x hx y hy=> ?_⟩;obtain ⟨j,hj,h1,h2,rfl⟩:=B0W.1 hx;split at hy
  ·obtain rfl:=Zz.1 hy;exact .inr ⟨rfl,ZX.2 hj⟩
  ·simp at hy
theorem A71 (f:Nat->Nat->Int) (n a:Nat):(A3p f n a).Pairwise ltE:=by
 induction a with
 | zero=>exact List.Pairwise.nil
 | succ a ih=>
  rw [A3P,Qq9];refine ⟨ih,B3H _ _ _,fun x hx y hy=> ?_⟩;obtain ⟨i,j,hi,hj,h1,h2,rfl⟩:=B2i.1 hx;obtain ⟨j',_,_,_,rfl⟩:=B0W.1 hy;exact .inl (ZX.2 hi)
theorem B4T {l:List E} (h:l.Pairwise ltE):l.Nodup:=h.imp fun {a b} h e=>by subst e; unfold ltE at h; omega
theorem A3j {es:List E} (h:distinctE es) {x:E} (hx:x∈es):A1G es x.a x.b=x.m:=by
 induction es with
 | nil=>cases hx
 | cons y ys ih=>
  have hp:=YY.1 h;simp only [A1G];rcases Qw.1 hx with rfl | hx
  ·rw [if_pos ⟨rfl,rfl⟩]
  ·have:=hp.1 x hx;unfold neE at this;rw [if_neg (by omega),ih hp.2 hx]
theorem A3k {es:List E} {a b:Int} (h:A1G es a b≠0):(⟨a,b,A1G es a b⟩:E)∈es:=by
 induction es with
 | nil=>simp [A1G] at h
 | cons y ys ih=>
  simp only [A1G] at h ⊢;by_cases hy:y.a=a∧y.b=b
  ·rw [if_pos hy];obtain ⟨ya,yb,ym⟩:=y;simp only at hy;obtain ⟨rfl,rfl⟩:=hy;simp
  ·rw [if_neg hy] at h ⊢;exact YW _ (ih h)
theorem C1z {es:List E} {n:Nat} (hs:es.Pairwise ltE) (hr: ∀e,e∈es->0≤e.a∧e.a≤e.b∧e.b<n∧1≤e.m):A3p (fun i j=>A1G es i j) n n=es:=by
 refine A4b (A71 _ _ _) hs ((Vy (B4T (A71 _ _ _)) (B4T hs)).2 fun x=> ?_);rw [B2i];constructor
 ·rintro ⟨i,j,hi,hj,hij,hp,rfl⟩;exact A3k (by omega)
 ·intro hx;have:=hr x hx;have hc:=A3j (A5O hs) hx;refine ⟨x.a.toNat,x.b.toNat,by omega,by omega,by omega,?_,?_⟩
  ·rw [show ((x.a.toNat:Nat):Int)=x.a by omega,show ((x.b.toNat:Nat):Int)=x.b by omega,hc]; omega
  ·rw [show ((x.a.toNat:Nat):Int)=x.a by omega,show ((x.b.toNat:Nat):Int)=x.b by omega,hc]
theorem C38 {f:Nat->Nat->Int} {es:List E} {n:Nat} (hs:es.Pairwise ltE) (hr: ∀e,e∈es->0≤e.a∧e.a≤e.b∧e.b<n∧1≤e.m) (hf: ∀i j:Nat,i≤j->j<n->f i j=A1G es i j):A3p f n n=es:=by
 rw [B3G hf n (QQ _),C1z hs hr]
theorem B8O {es fs:List E} (hp:es.Perm fs) (hd:distinctE es) (a b:Int):A1G es a b=A1G fs a b:=by
 have hd':distinctE fs:=(Qx5 neE.symm hp).1 hd;by_cases h:A1G es a b=0
 ·by_cases h2:A1G fs a b=0
  ·rw [h,h2]
  ·have:=A3k h2;have:=A3j hd (hp.mem_iff.2 this);exact this
 ·have:=A3k h;exact (A3j hd' (hp.mem_iff.1 this)).symm
theorem B4U (es:List E) (a b m i j:Int):A1G (A18 es a b m) i j=if i=a∧j=b then m else A1G es i j:=by
 induction es with
 | nil=>
  simp only [A18,A1G];by_cases h:i=a∧j=b
  ·rw [if_pos h,if_pos ⟨h.1.symm,h.2.symm⟩]
  ·rw [if_neg h,if_neg fun x=>h ⟨x.1.symm,x.2.symm⟩]
 | cons x xs ih=>
  simp only [A18];by_cases hx:x.a=a∧x.b=b
  ·rw [if_pos hx];simp only [A1G];by_cases h:i=a∧j=b
   ·rw [if_pos h,if_pos ⟨h.1.symm,h.2.symm⟩]
   ·rw [if_neg h,if_neg fun x=>h ⟨x.1.symm,x.2.symm⟩,if_neg fun y=>h ⟨by omega,by omega⟩]
  ·rw [if_neg hx];simp only [A1G,ih];by_cases hy:x.a=i∧x.b=j
   ·rw [if_pos hy,if_pos hy,if_neg fun h=>hx ⟨by omega,by omega⟩]
   ·rw [if_neg hy,if_neg hy]
def cG (l:List (Int×Int)) (k a b:Nat):Int:=A1G (A51 (l.take k)) a b
theorem C39 {l:List (Int×Int)} {k n a b:Nat} {p:Int×Int} (h:l[k]? =some p) (ha:min p.1 p.2=(a:Int)) (hb:max p.1 p.2=(b:Int)):
  A5U n (fun i j=>if i=a∧j=b then cG l k a b+1 else cG l k i j)=A5U n (cG l (k+1)):=by
 refine B6z fun i j _ _=> ?_;unfold cG;rw [take_snoc h,A6s,A8B,B4U,ha,hb];by_cases e:i=a∧j=b
 ·rw [if_pos e,if_pos ⟨by omega,by omega⟩]
 ·rw [if_neg e,if_neg fun x=>e ⟨by omega,by omega⟩]
def okP (n:Int) (p:Int×Int):Prop:=(0≤p.1∧p.1<n)∧(0≤p.2∧p.2<n)
theorem C11 (n:Int) (l:List (Int×Int)) (hl:l.length<2^40):ACall Tryz.prog 175 [A0k n,A0C l] (.tup [tG (A5L n l).1,A0k (A5L n l).2]):=by
 refine ACall.of_body Tryz.func175 rfl (by kernel_rfl) ?_;simp only [entry,Tryz.ntmps175,A0k,A0C];refine zU ?_;by_cases hn:n<1∨12<n
 ·
  have e:A5L n l=(⟨0,[]⟩,2):=by unfold A5L; rw [if_pos hn]
  by_cases hn1:n<1
  ·
   refine zR (zc @hn1 Qw9) Qw9 Qw9 ?_;simp [A0y,A0x,Blk.cells,ty,Tryz.results175,A0s,A0t,toT,A0d,A0b,A0c,A0a,A0k,tG,e,A0f]
  ·have hn2:12<n:=by omega
   refine zR (zc @hn1 (zc @hn2 Qw9)) Qw9 Qw9 ?_;simp [A0y,A0x,Blk.cells,ty,Tryz.results175,A0s,A0t,toT,A0d,A0b,A0c,A0a,A0k,tG,e,A0f]
 have hn1: ¬n<1:=by omega
 have hn2: ¬12<n:=by omega
 by_cases hlen:(4096:Int)<(l.length:Int)
 ·
  have e:A5L n l=(⟨0,[]⟩,5):=by unfold A5L; rw [if_neg hn,if_pos (by omega)]
  refine zR (zc @hn1 (zc @hn2 (zc @A02 (zc @hlen Qw9)))) Qw9 Qw9 ?_;simp [A0y,A0x,Blk.cells,ty,Tryz.results175,A0s,A0t,toT,A0d,A0b,A0c,A0a,A0k,tG,e,A0f]
 obtain ⟨m,hm⟩: ∃m:Nat,n=m:=⟨n.toNat,by omega⟩;subst hm;have hT1:=B81 m (by omega);have hc0: ∀a b,cG l 0 a b=0:=fun a b=>rfl;rw [C37 m (cG l 0) hc0] at hT1;refine zJ Qw9 (zc @hn1 (zc @hn2 (zc @A02 (zc @hlen Qw9)))) Qw9 (zc hT1 Qw9) Qw9 ?_;refine AWp.loopS (α:=Nat) 93 (fun k=>[(0,.c (.int .i64 (m:Int))),(1,.c (.slice (A1c l) .none)),(4,.c (.ptr 0 0)),(6,.c (.rows (A4c 2 m m) (.chain 1))),(7,.c (.int .i64 (k:Int)))]) (fun k=>.box [.int .i64 0,.nils]:: .chain m 1::(A5U m (cG l k)).map rowB) (fun k=>k≤l.length∧(∀j,j<k-> ∀p,l[j]? =some p->okP m p)∧BagOk m k (A51 (l.take k))) (fun k=>l.length-k) (0) (hk:=Weak.headL (m+2) 93 [0,1,4,6,7] (by (repeat' (first | exact A0n _ | exact A0v _ | exact A0i _ | refine Qw8 ?_ ?_ | refine A0j ?_ ?_ | refine A0l ?_ ?_ | refine A0g ?_ ?_ | exact Qw7 | exact A0Q (by omega) | exact A09 | exact A0A | (show _<_; omega) | exact A0q (fun _=>Qw7) | (intro c hc; cases hc; done) | (intro c hc; simp only [Qw,Qk,or_false] at hc; subst hc; first | exact Qw7 | exact A0Q (by omega) | exact A09 | exact A0A | (show _<_; omega)) | (intro c hc; simp only [Qw,Qk,or_false] at hc; rcases hc with rfl | rfl<;>first | exact Qw7 | exact A0Q (by omega) | exact A09 | exact A0A | (show _<_; omega)))))) (h0:=?_) (round:=fun k hI=>?_)
 ·exact ⟨Xj _,fun j hj=>by omega,List.Pairwise.nil,by simp [A51],by simp [A51],by simp [A51]⟩
 ·obtain ⟨hk,hok,hbag⟩:=hI;by_cases hlt:k<l.length
  ·have e0:=Qq hlt;have e1:=A20 e0;generalize l[k]=p at*;by_cases hp:okP m p
   case neg=>
    have e:A5L m l=(⟨0,[]⟩,2):=by
     unfold A5L;rw [if_neg hn,if_neg (by omega),if_pos ⟨p,Qy e0,hp⟩]
    unfold okP at hp
    repeat' (first|((first|(refine zT ?_;intro K' hK')|(refine zG ?_ ?_<;>(try refine zH ?_)<;>intro hguard<;>(try exact zX)<;>try intro K' hK'))<;>((try simp+contextual only [go_sem,e1,A02,Int.toNat_natCast,ZX]);(repeat' first|(with_reducible refine hK' _ _ ?_;clear hK' K')|exact zY|with_reducible refine Qw8 ?_ ?_|(with_reducible intro hpath;try exact zP)|(refine hK' _ _ ?_;clear hK' K')|fail);try refine zS ?_))|(refine zE ?_;refine hK _ _ ?_;clear hK K)|(refine zN ?_;try refine zS ?_)|refine zA ?_|(refine zB ?_;intro K hK)|(refine zC ?_ ?_<;>(try refine zH ?_)<;>intro hcond<;>try exact zX)|fail)
    all_goals
     first
     | (exfalso; omega)
     | skip
    all_goals
     simp [A0y,A0x,Blk.cells,ty,Tryz.results175,A0s,A0t,toT,A0d,A0b,A0c,A0a,A0k,tG,e,A0f]
   obtain ⟨⟨p1,p2⟩,⟨p3,p4⟩⟩:=hp;obtain ⟨a,ha⟩: ∃a:Nat,min p.1 p.2=a:=⟨(min p.1 p.2).toNat,by omega⟩;obtain ⟨b,hb⟩: ∃b:Nat,max p.1 p.2=b:=⟨(max p.1 p.2).toNat,by omega⟩;have ham:a<m:=by omega
   have hbm:b<m:=by omega
   have hst:=C39 (n:=m) e0 ha hb;have hr:=A8O (base:=2) (n:=m) ham;have hrow:=A61 (cG l k) ham;have hg1:=B8M hrow;have hset:=C1y (cG l k) ham hbm (cG l k a b+1);rw [hst] at hset;have hcb:0≤cG l k a b∧cG l k a b≤k:=⟨B3t fun e he=>(hbag.m e he).1,B3s (fun e he=>(hbag.m e he).2) (by omega)⟩;have hrl:((List.range m).map fun b=>cG l k a b).length=m:=by simp
   have hrg:((List.range m).map fun b=>cG l k a b)[b]? =some (cG l k a b):=by simp [hbm]
   have hic:=A6t hrg;have hbag2:BagOk m (k+1) (A51 (l.take (k+1))):=by
    rw [take_snoc e0,A6s]; exact B4C hbag ⟨p1,p2⟩ ⟨p3,p4⟩
   have q1: ¬p.1<0:=by omega
   have q2: ¬(m:Int)≤p.1:=by omega
   have q3: ¬p.2<0:=by omega
   have q4: ¬(m:Int)≤p.2:=by omega
   have hTn:A5U m (cG l (k+1))=A5U m (cG l (k+1)):=rfl;generalize ((List.range m).map fun b=>cG l k a b)=row at*;generalize A5U m (cG l k)=T at*;generalize cG l k a b=x at*;refine zR (zc @e1 (zc @A02 (zc @ZX (zc @q1 (zc @q2 (zc @q3 (zc @q4 (zc @ha (zc @hb (zc @hr (zc @hg1 (zc @hic (zc @A12 (zc @hrl (zc @A9V (zc @C36 (zc @hset Qw9))))))))))))))))) Qw9 Qw9 ?_;refine ⟨k+1,Weak.headN (m+2) 93 [0,1,4,6,7] (by (repeat' (first | exact A0n _ | exact A0v _ | exact A0i _ | refine Qw8 ?_ ?_ | refine A0j ?_ ?_ | refine A0l ?_ ?_ | refine A0g ?_ ?_ | exact Qw7 | exact A0Q (by omega) | exact A09 | exact A0A | (show _<_; omega) | exact A0q (fun _=>Qw7) | (intro c hc; cases hc; done) | (intro c hc; simp only [Qw,Qk,or_false] at hc; subst hc; first | exact Qw7 | exact A0Q (by omega) | exact A09 | exact A0A | (show _<_; omega)) | (intro c hc; simp only [Qw,Qk,or_false] at hc; rcases hc with rfl | rfl<;>first | exact Qw7 | exact A0Q (by omega) | exact A09 | exact A0A | (show _<_; omega))))),?_,?_⟩
   ·refine ⟨hlt,fun j hj q hq=> ?_,hbag2⟩;by_cases hjk:j=k
    ·subst hjk;rw [e0] at hq; cases hq;exact ⟨⟨p1,p2⟩,⟨p3,p4⟩⟩
    ·exact hok j (by omega) q hq
   ·omega
  ·have ek:k=l.length:=by omega
   rw [ek] at hbag hok ⊢;have hcl: ∀a b,cG l l.length a b=A1G (A51 l) a b:=fun a b=>by unfold cG; rw [Zy]
   rw [Zy] at hbag;have hnob: ¬ ∃p,p∈l∧ ¬((0≤p.1∧p.1<(m:Int))∧(0≤p.2∧p.2<(m:Int))):=by
    rintro ⟨p,hp,hx⟩;obtain ⟨j,hj⟩:=ZZ.1 hp;exact hx (hok j (Qx.1 hj).1 p hj)
   refine zR (zc @A02 (zc @ZX Qw9)) Qw9 Qw9 ?_;refine AWp.loopS (α:=Nat) 93 (fun a=>[(0,.c (.int .i64 (m:Int))),(4,.c (.ptr 0 0)),(6,.c (.rows (A4c 2 m m) (.chain 1))),(10,.c (.int .i64 (a:Int)))]) (fun a=>.box [.int .i64 0,.nils]:: .chain m 1::(A5U m (cG l l.length)).map rowB) (fun a=>a≤m∧ ∀i j:Nat,i<a->j<m->cG l l.length i j≤50) (fun a=>m-a) (0) (hk:=Weak.headL (m+2) 93 [0,4,6,10] (by (repeat' (first | exact A0n _ | exact A0v _ | exact A0i _ | refine Qw8 ?_ ?_ | refine A0j ?_ ?_ | refine A0l ?_ ?_ | refine A0g ?_ ?_ | exact Qw7 | exact A0Q (by omega) | exact A09 | exact A0A | (show _<_; omega) | exact A0q (fun _=>Qw7) | (intro c hc; cases hc; done) | (intro c hc; simp only [Qw,Qk,or_false] at hc; subst hc; first | exact Qw7 | exact A0Q (by omega) | exact A09 | exact A0A | (show _<_; omega)) | (intro c hc; simp only [Qw,Qk,or_false] at hc; rcases hc with rfl | rfl<;>first | exact Qw7 | exact A0Q (by omega) | exact A09 | exact A0A | (show _<_; omega)))))) (h0:=?_) (round:=fun a hI=>?_)
   ·exact ⟨Xj _,fun i j hi=>by omega⟩
   ·obtain ⟨ha,hA⟩:=hI;by_cases hlta:a<m
    ·have hltaI:(a:Int)<m:=by omega
     refine zR (zc @hltaI Qw9) Qw9 Qw9 ?_;refine AWp.loopS (α:=Nat) 93 (fun b=>[(0,.c (.int .i64 (m:Int))),(4,.c (.ptr 0 0)),(6,.c (.rows (A4c 2 m m) (.chain 1))),(10,.c (.int .i64 (a:Int))),(11,.c (.int .i64 (b:Int)))]) (fun b=>.box [.int .i64 0,.nils]:: .chain m 1::(A5U m (cG l l.length)).map rowB) (fun b=>b≤m∧ ∀j:Nat,j<b->cG l l.length a j≤50) (fun b=>m-b) (0) (hk:=Weak.headL (m+2) 93 [0,4,6,10,11] (by (repeat' (first | exact A0n _ | exact A0v _ | exact A0i _ | refine Qw8 ?_ ?_ | refine A0j ?_ ?_ | refine A0l ?_ ?_ | refine A0g ?_ ?_ | exact Qw7 | exact A0Q (by omega) | exact A09 | exact A0A | (show _<_; omega) | exact A0q (fun _=>Qw7) | (intro c hc; cases hc; done) | (intro c hc; simp only [Qw,Qk,or_false] at hc; subst hc; first | exact Qw7 | exact A0Q (by omega) | exact A09 | exact A0A | (show _<_; omega)) | (intro c hc; simp only [Qw,Qk,or_false] at hc; rcases hc with rfl | rfl<;>first | exact Qw7 | exact A0Q (by omega) | exact A09 | exact A0A | (show _<_; omega)))))) (h0:=?_) (round:=fun b hI=>?_)
     ·exact ⟨Xj _,fun j hj=>by omega⟩
     ·obtain ⟨hb,hB⟩:=hI;by_cases hltb:b<m
      ·have hltbI:(b:Int)<m:=by omega
       have hr:=A8O (base:=2) (n:=m) hlta;have hrow:=A61 (cG l l.length) hlta;have hg1:=B8M hrow;have hrl:((List.range m).map fun b=>cG l l.length a b).length=m:=by simp
       have hrg:((List.range m).map fun b=>cG l l.length a b)[b]? =some (cG l l.length a b):=by simp [hltb]
       have hic:=A6t hrg;by_cases hbig:50<cG l l.length a b
       ·have e:A5L m l=(⟨0,[]⟩,5):=by
         unfold A5L;rw [if_neg hn,if_neg (by omega),if_neg hnob,if_pos ⟨_,A3k (es:=A51 l) (a:=a) (b:=b) (by rw [<-hcl]; omega),by simp only; rw [<-hcl]; exact hbig⟩]
        generalize ((List.range m).map fun b=>cG l l.length a b)=row at*;generalize A5U m (cG l l.length)=T at*;generalize cG l l.length a b=x at*;refine zR (zc @hltbI (zc @hr (zc @hg1 (zc @hic (zc @A12 (zc @hrl (zc @hbig Qw9))))))) Qw9 Qw9 ?_;simp [A0y,A0x,Blk.cells,ty,Tryz.results175,A0s,A0t,toT,A0d,A0b,A0c,A0a,A0k,tG,e,A0f]
       ·generalize ((List.range m).map fun b=>cG l l.length a b)=row at*;generalize hxx:cG l l.length a b=x at*;refine zR (zc @hltbI (zc @hr (zc @hg1 (zc @hic (zc @A12 (zc @hrl (zc @hbig Qw9))))))) Qw9 Qw9 ?_;refine ⟨b+1,Weak.headN (m+2) 93 [0,4,6,10,11] (by (repeat' (first | exact A0n _ | exact A0v _ | exact A0i _ | refine Qw8 ?_ ?_ | refine A0j ?_ ?_ | refine A0l ?_ ?_ | refine A0g ?_ ?_ | exact Qw7 | exact A0Q (by omega) | exact A09 | exact A0A | (show _<_; omega) | exact A0q (fun _=>Qw7) | (intro c hc; cases hc; done) | (intro c hc; simp only [Qw,Qk,or_false] at hc; subst hc; first | exact Qw7 | exact A0Q (by omega) | exact A09 | exact A0A | (show _<_; omega)) | (intro c hc; simp only [Qw,Qk,or_false] at hc; rcases hc with rfl | rfl<;>first | exact Qw7 | exact A0Q (by omega) | exact A09 | exact A0A | (show _<_; omega))))),?_,?_⟩
        ·refine ⟨hltb,fun j hj=> ?_⟩;by_cases e:j=b
         ·subst e; omega
         ·exact hB j (by omega)
        ·omega
      ·have eb:b=m:=by omega
       have hnl: ¬((b:Int)<m):=by omega
       refine zR (zc @hnl Qw9) Qw9 Qw9 ?_;refine ⟨a+1,Weak.headN (m+2) 93 [0,4,6,10] (by (repeat' (first | exact A0n _ | exact A0v _ | exact A0i _ | refine Qw8 ?_ ?_ | refine A0j ?_ ?_ | refine A0l ?_ ?_ | refine A0g ?_ ?_ | exact Qw7 | exact A0Q (by omega) | exact A09 | exact A0A | (show _<_; omega) | exact A0q (fun _=>Qw7) | (intro c hc; cases hc; done) | (intro c hc; simp only [Qw,Qk,or_false] at hc; subst hc; first | exact Qw7 | exact A0Q (by omega) | exact A09 | exact A0A | (show _<_; omega)) | (intro c hc; simp only [Qw,Qk,or_false] at hc; rcases hc with rfl | rfl<;>first | exact Qw7 | exact A0Q (by omega) | exact A09 | exact A0A | (show _<_; omega))))),?_,?_⟩
       ·refine ⟨hlta,fun i j hi hj=> ?_⟩;by_cases e:i=a
        ·subst e; exact hB j (by omega)
        ·exact hA i j (by omega) hj
       ·omega
    ·have ea:a=m:=by omega
     have hnl: ¬((a:Int)<m):=by omega
     have hno5: ¬ ∃e,e∈A51 l∧50<e.m:=by
      rintro ⟨e,he,hx⟩;have hr:=hbag.r e he;have hc:=A3j hbag.d he;have:=hA e.a.toNat e.b.toNat (by omega) (by omega);rw [hcl,show ((e.a.toNat:Nat):Int)=e.a by omega,show ((e.b.toNat:Nat):Int)=e.b by omega,hc] at this;omega
     have e:A5L m l=(⟨m,A3c (A51 l)⟩,0):=by
      unfold A5L;rw [if_neg hn,if_neg (by omega),if_neg hnob,if_neg hno5]
     have hperm:=A1v (A51 l)
     have hj:=C38 (f:=cellT (A5U m (cG l l.length))) (es:=A3c (A51 l)) (n:=m) (A21 hbag.d) (fun x hx=>by
      have h1:=hbag.r x (hperm.mem_iff.1 hx);have h2:=hbag.m x (hperm.mem_iff.1 hx)
      omega) (fun i j hij hj=>by
      rw [B8N _ (by omega) hj,hcl]
      exact (B8O hperm ((Qx5 neE.symm hperm).2 hbag.d) i j).symm)
     have hJ:=B8L m (A5U m (cG l l.length)) (by omega) (A5Q _ _);rw [hj] at hJ;refine B6y [.box [.int .i64 0,.nils],.chain m 1] 6 (.chain 1) m (A5U m (cG l l.length)) (A5Q _ _) rfl ?_;simp only [List.set_cons_succ,List.set_cons_zero,List.cons_append,List.nil_append];refine zR (zc @hnl Qw9) (zc hJ Qw9) Qw9 ?_;simp [A0y,A0x,Blk.cells,ty,Tryz.results175,A0s,A0t,toT,A0d,A0b,A0c,A0a,A0k,tG,e]
def isP (a b:Int) (p:Int×Int):Bool:=decide (min p.1 p.2=a∧max p.1 p.2=b)
theorem C12 (l:List (Int×Int)) (a b:Int): ∀k,k≤l.length->A1G (A51 (l.take k)) a b=((l.take k).countP (isP a b):Int):=by
 intro k
 induction k with
 | zero=>intro _; rfl
 | succ k ih=>
  intro hk;have e0:=Qq (l:=l) (i:=k) (by omega);rw [take_snoc e0,A6s,A8B,B4U,List.countP_append,Qz9,List.countP_nil];have ih:=ih (by omega);by_cases h:a=min l[k].1 l[k].2∧b=max l[k].1 l[k].2
  ·rw [if_pos h,<-h.1,<-h.2,ih,if_pos (by unfold isP; simp [h.1,h.2])]; omega
  ·rw [if_neg h,ih,if_neg (by unfold isP; simp only [decide_eq_true_eq]; omega)]; omega
theorem B8P {n:Int} {l:List (Int×Int)} (h: ∀p,p∈l->okP n p): ∀k,k≤l.length->BagOk n k (A51 (l.take k)):=by
 intro k
 induction k with
 | zero=>intro _; exact ⟨List.Pairwise.nil,by simp [A51],by simp [A51],by simp [A51]⟩
 | succ k ih=>
  intro hk;have e0:=Qq (l:=l) (i:=k) (by omega);have ho:=h _ (Xw (by omega:k<l.length));rw [take_snoc e0,A6s];exact B4C (ih (by omega)) ho.1 ho.2
instance (n:Int) (p:Int×Int):Decidable (okP n p):=by unfold okP; infer_instance
theorem _root_.Go.Sp.Weak.untok {h:Nat} {tm:List AVal} {H:List Blk} (t:Nat) {rows:List (List Tree)} {tok:Tok} (ht:tm[t]? =some (.c (.slice rows tok))):Weak h ⟨tm,H⟩ ⟨tm.set t (.c (.slice rows .none)),H⟩:=by
 intro ι σ a w hr;exact ⟨ι,⟨A5g ht (fun v hv=>⟨hv.1,trivial⟩) hr.tmps,hr.heap⟩,rfl,rfl⟩
end Go.Proofs.YtdbdfkohpjefjaaGreat
