/- A part of the proof. -/
import Derived.Test.YtdbdfkohpjefjaaGreatPart13
set_option linter.all false
set_option maxHeartbeats 4000000
set_option maxRecDepth 100000
namespace Go.Proofs.YtdbdfkohpjefjaaGreat
open Go.Sp
def A3U (base n i:Nat):List (List ACap):=(List.range i).map fun j=>[.ref (j+base) 1 0 n n]
theorem B5B (base n i:Nat):A3U base n (i+1)=A3U base n i++[[.ref (i+base) 1 0 n n]]:=by simp [A3U,Ww]
theorem A84 (base n i:Nat):(A3U base n i).length=i:=by simp [A3U]
theorem C2z {base n i:Nat} {r:List ACap} (h:r∈A3U base n i):r.length=1:=by obtain ⟨j,_,rfl⟩:=Xq.1 h; rfl
theorem A0Q {base n i m:Nat} (hm:i+base≤m): ∀r,r∈A3U base n i-> ∀c,c∈r->B0m m c:=fun r hr c hc=>by
 obtain ⟨j,hj,rfl⟩:=Xq.1 hr;obtain rfl:=XJ.1 hc;have:=XQ.1 hj;show j+base<m;omega
theorem A85 {base n i j:Nat} (h:j<i):(A3U base n i)[j]? =some [.ref (j+base) 1 0 n n]:=by simp [A3U,h]
def rowB (r:List Int):Blk:= .box (iC r)
theorem B7R (m:Nat) (r:List Int):blkIn m (rowB r):=A0p (fun _=>Qw6)
theorem A08 {m i:Nat} {r:List Int}:A1r m (List.replicate i (rowB r)):=fun b hb=>by
 rw [(WV.1 hb).2]; exact B7R m r
theorem A09 {m:Nat} {T:List (List Int)}:A1r m (T.map rowB):=fun b hb=>by
 obtain ⟨r,_,rfl⟩:=Xq.1 hb; exact B7R m r
theorem C01 {α:Type} (i:Nat) (x:α):List.replicate i x++[x]=List.replicate (i+1) x:=by rw [<-List.replicate_succ']
theorem C5w {a b:Nat} (h:a≠b):Operand.tmp a≠Operand.tmp b:=fun e=>h (by cases e; rfl)
theorem B7S (n:Nat) (hn:n≤12):ACallH Tryz.prog 194 [.box [.int .i64 0,.nils]] [.c (.int .i64 (n:Int))] (.box [.int .i64 0,.nils]:: .chain n 1::List.replicate n (rowB (List.replicate n 0))) (.c (.rows (A3U 2 n n) (.chain 1))):=by
 refine ACallH.of_body Tryz.func194 rfl (by kernel_rfl) ?_;simp only [entry,Tryz.ntmps194,List.length_cons,List.length_nil,Nat.reduceAdd,Nat.reduceSub,List.replicate_succ,List.replicate_zero,List.cons_append,List.nil_append];refine zR Qw8 Qw8 Qw8 ?_;refine AWp.weak (Weak.opens ((fun t f=>[f,f,f,t,f,f,f,f,f,f,f,f,f,f,f,f]) true false) 1 (by first | omega | simp)) ?_;simp only [A2i,A66,List.length_cons,List.length_nil,Xw,Nat.reduceAdd,List.cons_append,List.nil_append];refine AWp.asRows 3 1 rfl ?_;simp only [List.set_cons_succ,List.set_cons_zero];have e0:A3U 2 n 0=[]:=rfl;rw [<-e0];refine AWp.loopS (α:=Nat) 16 (fun i=>[(0,.c (.int .i64 (n:Int))),(3,.c (.rows (A3U 2 n i) (.chain 1))),(4,.c (.int .i64 (i:Int)))]) (fun i=>.box [.int .i64 0,.nils]:: .chain i 1::List.replicate i (rowB (List.replicate n 0))) (fun i=>i≤n) (fun i=>n-i) (0) (hk:=Weak.headL ((0)+2) 16 [0,3,4] (by (repeat' (first | exact A0l _ | exact A0r _ | exact A0h _ | refine Qw7 ?_ ?_ | refine A0i ?_ ?_ | refine A0k ?_ ?_ | refine A0g ?_ ?_ | exact Qw6 | exact A0Q (by omega) | exact A08 | exact A09 | (show _<_; omega) | exact A0p (fun _=>Qw6) | (intro c hc; cases hc; done) | (intro c hc; simp only [Qw,Qv,or_false] at hc; subst hc; first | exact Qw6 | exact A0Q (by omega) | exact A08 | exact A09 | (show _<_; omega)) | (intro c hc; simp only [Qw,Qv,or_false] at hc; rcases hc with rfl | rfl<;>first | exact Qw6 | exact A0Q (by omega) | exact A08 | exact A09 | (show _<_; omega)))))) (h0:=?_) (round:=fun i hI=>?_)
 ·exact Xj _
 ·have hi:i≤n:=hI;clear hI;by_cases hlt:i<n
  ·have hltI:(i:Int)<n:=by omega
   have hT:A3U 2 n (i+1)=A3U 2 n i++[[.ref (i+1+1) 1 0 n n]]:=B5B 2 n i;have hrb:Blk.box (iC (List.replicate n 0))=rowB (List.replicate n 0):=rfl;have hrs:=C01 i (rowB (List.replicate n 0))
   repeat' (first|((first|(refine zT ?_;intro K' hK')|(refine zG ?_ ?_<;>(try refine zH ?_)<;>intro hguard<;>(try exact zX)<;>try intro K' hK'))<;>((try simp+contextual only [go_sem,hltI,A1I,Int.toNat_natCast,hrb,hrs,Yq,A84]);(repeat' first|(with_reducible refine hK' _ _ ?_;clear hK' K')|(with_reducible exact C2z (by assumption))|(exact C5w (by decide))|exact zY|with_reducible refine Qw7 ?_ ?_|(with_reducible intro hpath;try exact zP)|(refine hK' _ _ ?_;clear hK' K')|fail);try refine zS ?_))|(refine zE ?_;refine hK _ _ ?_;clear hK K)|(refine zN ?_;try refine zS ?_)|refine zA ?_|(refine zB ?_;intro K hK)|(refine zC ?_ ?_<;>(try refine zH ?_)<;>intro hcond<;>try exact zX)|fail)
   refine ⟨i+1,Weak.headN ((i+1)+2) 16 [0,3,4] (by (repeat' (first | exact A0l _ | exact A0r _ | exact A0h _ | refine Qw7 ?_ ?_ | refine A0i ?_ ?_ | refine A0k ?_ ?_ | refine A0g ?_ ?_ | exact Qw6 | exact A0Q (by omega) | exact A08 | exact A09 | (show _<_; omega) | exact A0p (fun _=>Qw6) | (intro c hc; cases hc; done) | (intro c hc; simp only [Qw,Qv,or_false] at hc; subst hc; first | exact Qw6 | exact A0Q (by omega) | exact A08 | exact A09 | (show _<_; omega)) | (intro c hc; simp only [Qw,Qv,or_false] at hc; rcases hc with rfl | rfl<;>first | exact Qw6 | exact A0Q (by omega) | exact A08 | exact A09 | (show _<_; omega))))) (e1:=by first|rfl|(simp [mask,A18,hT,List.replicate_succ];done)|(simp [mask,A18,hT,List.replicate_succ]<;>simp_all<;>omega)) (e2:=by first|rfl|(simp [mask,A18,hT,List.replicate_succ];done)|(simp [mask,A18,hT,List.replicate_succ]<;>simp_all<;>omega)),?_,?_⟩
   ·exact hlt
   ·omega
  ·have ei:i=n:=by omega
   subst ei;have hnl: ¬((i:Int)<i):=by omega
   refine zR (zc @hnl Qw8) Qw8 Qw8 ?_;simp [A4y,A1S,A0t,A1R,Tryz.results194]
def A6K (T:List (List Int)):List (List Tree):=(T.map fun r=>Tree.slice (A0o r)).map fun t=>[t]
def C4U (T:List (List Int)):TVal:= .t (.slice (A6K T))
attribute [go_sem] C4U
theorem B3j {T:List (List Int)} {i:Nat} {r:List Int} (h:T[i]? =some r):(A6K T)[i]? =some [.slice (A0o r)]:=by simp [A6K,h]
def cellT (T:List (List Int)) (a b:Nat):Int:=(T.getD a []).getD b 0
structure Sq (n:Nat) (T:List (List Int)):Prop where
 len:T.length=n
 row: ∀r,r∈T->r.length=n
theorem Sq.get {n:Nat} {T:List (List Int)} (h:Sq n T) {a b:Nat} (ha:a<n) (hb:b<n): ∃r,T[a]? =some r∧r.length=n∧r[b]? =some (cellT T a b):=by
 have hal:a<T.length:=by rw [h.len]; exact ha
 have hrl:=h.row _ (Xv hal);refine ⟨T[a],Qq hal,hrl,?_⟩;unfold cellT;rw [Qz (l:=T),Qq hal,Option.getD_some,Qz,Qq (by omega)]; rfl
def B06 (f:Nat->Int) (a b:Nat):List E:=(List.range b).filterMap fun j=>if a≤j∧0<f j then some ⟨a,j,f j⟩ else none
def A3b (f:Nat->Nat->Int) (n a:Nat):List E:=(List.range a).flatMap fun i=>B06 (f i) i n
theorem B1O (f:Nat->Int) (a b:Nat):B06 f a (b+1)=B06 f a b++(if a≤b∧0<f b then [⟨a,b,f b⟩] else []):=by
 simp only [B06,Ww,Qx7];congr 1;by_cases h:a≤b∧0<f b<;>simp [h]
@[simp] theorem C3y (f:Nat->Int) (a:Nat):B06 f a a=[]:=by
 simp only [B06,List.filterMap_eq_nil_iff,XQ];intro j hj;rw [if_neg (by omega)]
theorem A3B (f:Nat->Nat->Int) (n a:Nat):A3b f n (a+1)=A3b f n a++B06 (f a) a n:=by simp [A3b,Ww]
theorem B4m (f:Nat->Int) (a b:Nat):(B06 f a b).length≤b:=by
 have:=List.length_filterMap_le (fun j=>if a≤j∧0<f j then some (⟨a,j,f j⟩:E) else none) (List.range b);simpa [B06] using this
theorem B7T (f:Nat->Nat->Int) (n a:Nat):(A3b f n a).length≤a*n:=by
 induction a with
 | zero=>simp [A3b]
 | succ a ih=>
  have:=B4m (f a) a n;rw [A3B,Xw,Vk]; omega
theorem B3k {f g:Nat->Nat->Int} {n:Nat} (h: ∀a b,a≤b->b<n->f a b=g a b): ∀a,a≤n->A3b f n a=A3b g n a:=by
 intro a
 induction a with
 | zero=>intro _; rfl
 | succ a ih=>
  intro ha;rw [A3B,A3B,ih (by omega)];congr 1;unfold B06;have: ∀l:List Nat,(∀j,j∈l->j<n)->(l.filterMap fun j=>if a≤j∧0<f a j then some (⟨a,j,f a j⟩:E) else none)=l.filterMap fun j=>if a≤j∧0<g a j then some (⟨a,j,g a j⟩:E) else none:=by
   intro l
   induction l with
   | nil=>intro _; rfl
   | cons j l ih2=>
    intro hl;rw [List.filterMap_cons,List.filterMap_cons,ih2 fun x hx=>hl x (by simp [hx])];by_cases hj:a≤j
    ·rw [h a j hj (hl j (by simp))]
    ·rw [if_neg (by omega),if_neg (by omega)]
  exact this _ fun j hj=>XQ.1 hj
theorem B7U (n:Nat) (T:List (List Int)) (hn:n≤12) (hT:Sq n T):ACall Tryz.prog 195 [A0m n,C4U T] (tG ⟨n,A3b (cellT T) n n⟩):=by
 have htl:=hT.len;refine ACall.of_body Tryz.func195 rfl (by kernel_rfl) ?_;simp only [entry,Tryz.ntmps195,A0m,C4U];refine zU ?_;refine zR Qw8 Qw8 Qw8 ?_;refine AWp.weak (Weak.openB 1 1 3 rfl rfl (by omega)) ?_;simp only [List.set_cons_succ,List.set_cons_zero,List.length_cons,List.length_nil,Xw,Nat.reduceAdd,List.cons_append,List.nil_append];have hj0:A3b (cellT T) n 0=[]:=rfl;refine AWp.loopS (α:=Nat) 45 (fun a=>[(0,.c (.int .i64 (n:Int))),(1,.c (.slice (A6K T) .none)),(4,.c (.ptr 0 0)),(5,.c (.ptr 1 0)),(6,.c (.int .i64 (a:Int)))]) (fun a=>[.box [.int .i64 0,.nils],.box [.int .i64 (n:Int),.slice (A0f (A3b (cellT T) n a)) (.chain 2)],.chain (A3b (cellT T) n a).length 3]) (fun a=>a≤n) (fun a=>n-a) (0) (hk:=Weak.headL 3 45 [0,1,4,5,6] zW) (h0:=?_) (round:=fun a hI=>?_)
 ·exact Xj _
 ·have ha:a≤n:=hI;clear hI;by_cases hlt:a<n
  ·have hltI:(a:Int)<n:=by omega
   have hA:=A3B (cellT T) n a;have hjl:=B7T (cellT T) n a;have hjl2:a*n≤12*12:=Nat.mul_le_mul (by omega) hn;refine zR (zc @hltI Qw8) Qw8 Qw8 ?_;refine AWp.loopS (α:=Nat) 45 (fun b=>[(0,.c (.int .i64 (n:Int))),(1,.c (.slice (A6K T) .none)),(4,.c (.ptr 0 0)),(5,.c (.ptr 1 0)),(6,.c (.int .i64 (a:Int))),(7,.c (.int .i64 (b:Int)))]) (fun b=>[.box [.int .i64 0,.nils],.box [.int .i64 (n:Int),.slice (A0f (A3b (cellT T) n a++B06 (cellT T a) a b)) (.chain 2)],.chain (A3b (cellT T) n a++B06 (cellT T a) a b).length 3]) (fun b=>a≤b∧b≤n) (fun b=>n-b) (a) (hk:=Weak.headL 3 45 [0,1,4,5,6,7] zW) (h0:=?_) (round:=fun b hI=>?_)
   ·exact ⟨QQ _,ha⟩
   ·obtain ⟨hab,hb⟩:=hI;by_cases hltb:b<n
    ·have hltbI:(b:Int)<n:=by omega
     obtain ⟨r,e1,e2,e3⟩:=hT.get hlt hltb;have f1:=B3j e1;have f2:=A0w e3;have hR:=B1O (cellT T a) a b;have hrl:=B4m (cellT T a) a b;have hLs:A3b (cellT T) n a++B06 (cellT T a) a (b+1)=(A3b (cellT T) n a++B06 (cellT T a) a b)++(if a≤b∧0<cellT T a b then [⟨a,b,cellT T a b⟩] else []):=by rw [hR,Zj]
     have hLl:(A3b (cellT T) n a++B06 (cellT T a) a b).length≤200:=by rw [Xw]; omega
     generalize A3b (cellT T) n a++B06 (cellT T a) a b=L at*;generalize hx:cellT T a b=x at*;by_cases hp:0<x
     ·rw [if_pos ⟨hab,hp⟩] at hLs;have hsn:=A91 L ⟨a,b,x⟩;refine zRc (zc @hltbI (zc @f1 (zc @f2 (zc @hp (zc @A01 (zc @hsn Qw8)))))) Qw8 @A5W ?_;refine ⟨b+1,Weak.headF 3 45 [0,1,4,5,6,7] (zc @hLs Qw8) zW,?_,?_⟩
      ·exact ⟨by omega,hltb⟩
      ·omega
     ·rw [if_neg (by omega),WZ] at hLs;refine zR (zc @hltbI (zc @f1 (zc @f2 (zc @hp Qw8)))) Qw8 Qw8 ?_;refine ⟨b+1,Weak.headF 3 45 [0,1,4,5,6,7] (zc @hLs Qw8) zW,?_,?_⟩
      ·exact ⟨by omega,hltb⟩
      ·omega
    ·have eb:b=n:=by omega
     have hnl: ¬((b:Int)<n):=by omega
     rw [eb];rw [eb] at hnl;refine zR (zc @hnl Qw8) Qw8 Qw8 ?_;refine ⟨a+1,Weak.headF 3 45 [0,1,4,5,6] (zc @hA Qw8) zW,?_,?_⟩
     ·exact hlt
     ·omega
  ·have ea:a=n:=by omega
   subst ea;have hnl: ¬((a:Int)<a):=by omega
   refine zR (zc @hnl Qw8) Qw8 Qw8 ?_;simp [A0z,A0y,Blk.cells,ty,Tryz.results195,A0t,A0u,toT,A0d,A0b,A0c,A0a,tG]
def B4n (r:List Int):List Tree:=r.map fun x=>Tree.int .i64 x
def roB (r:List Int):Blk:= .ro (B4n r)
section
variable {P:Program} {rd:Option Nat} {h:Nat} {Q:Exit->St->Prop} {c:Code} {tm:List AVal}
theorem B5C (pre:List Blk) (t:Nat) (tok:Tok) (n:Nat) (T:List (List Int)) (hT:Sq n T) (ht:tm[t]? =some (.c (.rows (A3U pre.length n n) tok)))
  (hw:AWp P rd h c Q ⟨tm.set t (.c (.slice (A6K T) .none)),pre++T.map roB⟩):AWp P rd h c Q ⟨tm,pre++T.map rowB⟩:=by
 have e1:T.map rowB=(T.map fun r=>(iC r,B4n r)).map fun p=>Blk.box p.1:=by rw [VQ]; rfl
 have e2:T.map roB=(T.map fun r=>(iC r,B4n r)).map fun p=>Blk.ro p.2:=by rw [VQ]; rfl
 rw [e1];refine AWp.freezeL _ pre (fun p hp=> ?_) ?_
 ·obtain ⟨r,_,rfl⟩:=Xq.1 hp;exact B4b r
 rw [<-e2];refine AWp.rowsData t (A3U pre.length n n) tok (T.map fun r=>Tree.slice (A0o r)) ht (by rw [A84,XW,hT.len]) (fun i r hr=> ?_) hw;have hi:i<n:=by have:=(Qx.1 hr).1; rwa [A84] at this
 rw [A85 hi] at hr;cases hr;have hil:i<T.length:=by rw [hT.len]; exact hi
 have hrl:=hT.row _ (Xv hil);refine ⟨_,.slice (A0o T[i]),rfl,by rw [QY,Qq hil]; rfl,fun ι σ w u hH hu=> ?_⟩;refine B9M (ts:=B4n T[i]) hH ?_ hu (by rw [A0e]; exact hrl) (QQ _) (fun r hr=>A1s hr) (B1B T[i]);rw [QJ (by omega),Nat.add_sub_cancel,QY,Qq hil]; rfl
end
theorem B7V {T:List (List Int)} {i:Nat} {r:List Int} (h:T[i]? =some r):(T.map rowB)[i]? =some (.box (iC r)):=by rw [QY,h]; rfl
theorem C20 (T:List (List Int)) (i:Nat) (r:List Int):(T.map rowB).set i (.box (iC r))=(T.set i r).map rowB:=by rw [Qj0]; rfl
def A5A (n:Nat) (g:Nat->Nat->Int):List (List Int):=(List.range n).map fun a=>(List.range n).map fun b=>g a b
theorem A56 (n:Nat) (g:Nat->Nat->Int):Sq n (A5A n g):=⟨by simp [A5A],fun r hr=>by obtain ⟨a,_,rfl⟩:=Xq.1 hr; simp⟩
@[simp] theorem C3V (n:Nat) (g:Nat->Nat->Int):(A5A n g).take n=A5A n g:=Zz (by rw [(A56 n g).len]; exact QQ _)
@[simp] theorem C4D (n:Nat) (g:Nat->Nat->Int):((A5A n g).map rowB).take n=(A5A n g).map rowB:=Zz (by rw [XW,(A56 n g).len]; exact QQ _)
theorem A6i {n:Nat} (g:Nat->Nat->Int) {a:Nat} (ha:a<n):(A5A n g)[a]? =some ((List.range n).map fun b=>g a b):=by simp [A5A,ha]
theorem B7W {n:Nat} (g:Nat->Nat->Int) {a b:Nat} (ha:a<n) (hb:b<n):cellT (A5A n g) a b=g a b:=by
 unfold cellT;rw [Qz (l:=A5A n g),A6i g ha,Option.getD_some,Qz]; simp [hb]
theorem B5D {n:Nat} {g f:Nat->Nat->Int} (h: ∀a b,a<n->b<n->g a b=f a b):A5A n g=A5A n f:=by
 unfold A5A;refine WW fun a ha=>WW fun b hb=>h a b (XQ.1 ha) (XQ.1 hb)
theorem C02 {n:Nat} (g:Nat->Nat->Int) {a b:Nat} (ha:a<n) (hb:b<n) (x:Int):(A5A n g).set a (((List.range n).map fun b=>g a b).set b x)=A5A n (fun i j=>if i=a∧j=b then x else g i j):=by
 apply XY;intro i;by_cases hi:i<n
 ·rw [A6i _ hi];by_cases e:a=i
  ·subst e;rw [QW (by rw [(A56 n g).len]; exact ha)];congr 1;apply XY;intro j;by_cases e2:b=j
   ·subst e2; rw [QW (by simpa using hb)]; simp [hb]
   ·rw [QX e2];by_cases hj:j<n
    ·simp [hj,Ne.symm e2]
    ·simp [hj]
  ·rw [QX e,A6i _ hi];congr 1;refine WW fun j _=> ?_;rw [if_neg (by omega)]
 ·rw [QV (by rw [Yx,(A56 n g).len]; omega),QV (by rw [(A56 n _).len]; omega)]
theorem C21 (n:Nat) (g:Nat->Nat->Int) (h: ∀a b,g a b=0):List.replicate n (rowB (List.replicate n 0))=(A5A n g).map rowB:=by
 have e:A5A n g=List.replicate n (List.replicate n 0):=by
  unfold A5A;rw [List.eq_replicate_iff];refine ⟨by simp,fun r hr=> ?_⟩;obtain ⟨a,_,rfl⟩:=Xq.1 hr;rw [List.eq_replicate_iff];refine ⟨by simp,fun x hx=> ?_⟩;obtain ⟨b,_,rfl⟩:=Xq.1 hx;exact h a b
 rw [e,List.map_replicate]
end Go.Proofs.YtdbdfkohpjefjaaGreat
