/- A part of the proof. -/
import Derived.Test.YtdbdfkohpjefjaaGreatPart07
import Derived.Test.YtdbdfkohpjefjaaGreatLayerD
set_option linter.all false
set_option maxHeartbeats 4000000
set_option maxRecDepth 100000
namespace Go.Proofs.YtdbdfkohpjefjaaGreat
open Go.Sp
def C2O (l:List Int) (v:Int) (hl:l.length<2^40):ACall Tryz.prog 101 [A0k l,A0j v] (A0q (decide (v∈l))):=by
 refine ACall.of_body Tryz.func101 rfl (by kernel_rfl) ?_;simp only [entry,Tryz.ntmps101,A0k,A0j];refine zU ?_;refine zR Qv5 Qv5 Qv5 ?_;refine AWp.loopS (α:=Nat) 18 (fun i=>[(0,.c (.slice (A0l l) .none)),(1,.c (.int .i64 v)),(5,.c (.int .i64 (i:Int)))]) (fun i=>[]) (fun i=>i≤l.length∧(v∈l↔v∈l.drop i)) (fun i=>l.length-i) (0) (hk:=Weak.headL 0 18 [0,1,5] zW) (h0:=?_) (round:=fun i hI=>?_)
 ·exact ⟨Xj _,Iff.rfl⟩
 ·obtain ⟨hi,hx⟩:=hI;by_cases hlt:i<l.length
  ·have e1:=A0t (Qq hlt);rw [Zk hlt,QV] at hx;generalize l[i]=x at*;refine zM Qv5 (zc @e1 (zc @A0e (zc @Yx Qv5))) Qv5 Qv5 Qv5 (zc (ed fun hp hpc=>?_) (ed fun hp hpc=>?_))
   ·have e:v∈l:=hx.2 (.inl (by omega));simp [A0s,A0r,Blk.cells,ty,Tryz.results101,A0o,A0p,toT,A0d,A0b,A0c,A0a,A0q,e]
   ·refine ⟨i+1,Weak.headN 0 18 [0,1,5] zW,?_,?_⟩
    ·refine ⟨hlt,hx.trans ⟨fun h=>h.resolve_left (by omega),.inr⟩⟩
    ·omega
  ·have ei:i=l.length:=by omega
   have e: ¬v∈l:=fun h=>by have:=hx.1 h; rw [ei,Qq9] at this; cases this
   refine zR (zc @A0e (zc @Yx Qv5)) Qv5 Qv5 ?_;simp [A0s,A0r,Blk.cells,ty,Tryz.results101,A0o,A0p,toT,A0d,A0b,A0c,A0a,A0q,e]
def A4t (base n i:Nat):List (List ACap):=(List.range i).map fun j=>[.ref (j+base) 1 0 n n]
def B74 (base n i:Nat):A4t base n (i+1)=A4t base n i++[[.ref (i+base) 1 0 n n]]:=by simp [A4t,WQ]
def A9z (base n i:Nat):(A4t base n i).length=i:=by simp [A4t]
def C5c {base n i:Nat} {r:List ACap} (h:r∈A4t base n i):r.length=1:=by obtain ⟨j,_,rfl⟩:=QY.1 h; rfl
def A3D {base n i m:Nat} (hm:i+base≤m): ∀r,r∈A4t base n i-> ∀c,c∈r->B1w m c:=fun r hr c hc=>by
 obtain ⟨j,hj,rfl⟩:=QY.1 hr;obtain rfl:=XQ.1 hc;have:=Xk.1 hj;show j+base<m;omega
def A90 {base n i j:Nat} (h:j<i):(A4t base n i)[j]? =some [.ref (j+base) 1 0 n n]:=by simp [A4t,h]
def rowB (r:List Int):Blk:= .box (iC r)
def B9M (m:Nat) (r:List Int):blkIn m (rowB r):=A1g (fun _=>Qv3)
def A2c {m i:Nat} {r:List Int}:A1N m (List.replicate i (rowB r)):=fun b hb=>by
 rw [(Wq.1 hb).2]; exact B9M m r
variable {T:List (List Int)}
def A2d {m:Nat}:A1N m (T.map rowB):=fun b hb=>by
 obtain ⟨r,_,rfl⟩:=QY.1 hb; exact B9M m r
def C2P {α:Type} (i:Nat) (x:α):List.replicate i x++[x]=List.replicate (i+1) x:=by rw [<-List.replicate_succ']
def C8j {a b:Nat} (h:a≠b):Operand.tmp a≠Operand.tmp b:=fun e=>h (by cases e; rfl)
def B9N (n:Nat) (hn:n≤12):ACallH Tryz.prog 194 [.box [.int .i64 0,.nils]] [.c (.int .i64 (n:Int))] (.box [.int .i64 0,.nils]:: .chain n 1::List.replicate n (rowB (List.replicate n 0))) (.c (.rows (A4t 2 n n) (.chain 1))):=by
 refine ACallH.of_body Tryz.func194 rfl (by kernel_rfl) ?_;simp only [entry,Tryz.ntmps194,List.length_cons,List.length_nil,Nat.reduceAdd,Nat.reduceSub,List.replicate_succ,List.replicate_zero,List.cons_append,List.nil_append];refine zR Qv5 Qv5 Qv5 ?_;refine AWp.weak (Weak.opens ((fun t f=>[f,f,f,t,f,f,f,f,f,f,f,f,f,f,f,f]) true false) 1 (by first | omega | simp)) ?_;simp only [A2t,A7l,List.length_cons,List.length_nil,Xv,Nat.reduceAdd,List.cons_append,List.nil_append];refine AWp.asRows 3 1 rfl ?_;simp only [List.set_cons_succ,List.set_cons_zero];have e0:A4t 2 n 0=[]:=rfl;rw [<-e0];refine AWp.loopS (α:=Nat) 16 (fun i=>[(0,.c (.int .i64 (n:Int))),(3,.c (.rows (A4t 2 n i) (.chain 1))),(4,.c (.int .i64 (i:Int)))]) (fun i=>.box [.int .i64 0,.nils]:: .chain i 1::List.replicate i (rowB (List.replicate n 0))) (fun i=>i≤n) (fun i=>n-i) (0) (hk:=Weak.headL ((0)+2) 16 [0,3,4] (zWs (zc @A3D (zc @A2c @A2d)))) (h0:=?_) (round:=fun i hI=>?_)
 ·exact Xj _
 ·have hi:i≤n:=hI;clear hI;by_cases hlt:i<n
  ·have hltI:(i:Int)<n:=by omega
   have hT:A4t 2 n (i+1)=A4t 2 n i++[[.ref (i+1+1) 1 0 n n]]:=B74 2 n i;have hrb:Blk.box (iC (List.replicate n 0))=rowB (List.replicate n 0):=rfl;have hrs:=C2P i (rowB (List.replicate n 0))
   repeat' (first|((first|(refine zT ?_;intro K' hK')|(refine zG ?_ ?_<;>(try refine zH ?_)<;>intro hguard<;>(try exact zX)<;>try intro K' hK'))<;>((try simp+contextual only [go_sem,hltI,A1R,Int.toNat_natCast,hrb,hrs,Yj,A9z]);(repeat' first|(with_reducible refine hK' _ _ ?_;clear hK' K')|(with_reducible exact C5c (by assumption))|(exact C8j (by decide))|exact zY|with_reducible refine Qv4 ?_ ?_|(with_reducible intro hpath;try exact zP)|(refine hK' _ _ ?_;clear hK' K')|fail);try refine zS ?_))|(refine zE ?_;refine hK _ _ ?_;clear hK K)|(refine zN ?_;try refine zS ?_)|refine zA ?_|(refine zB ?_;intro K hK)|(refine zC ?_ ?_<;>(try refine zH ?_)<;>intro hcond<;>try exact zX)|fail)
   refine ⟨i+1,Weak.headN ((i+1)+2) 16 [0,3,4] (zWs (zc @A3D (zc @A2c @A2d))) (e1:=by first|rfl|(simp [mask,A1B,hT,List.replicate_succ];done)|(simp [mask,A1B,hT,List.replicate_succ]<;>simp_all<;>omega)) (e2:=by first|rfl|(simp [mask,A1B,hT,List.replicate_succ];done)|(simp [mask,A1B,hT,List.replicate_succ]<;>simp_all<;>omega)),?_,?_⟩
   ·exact hlt
   ·omega
  ·have ei:i=n:=by omega
   subst ei;have hnl: ¬((i:Int)<i):=by omega
   refine zR (zc @hnl Qv5) Qv5 Qv5 ?_;simp [A4Q,A2f,A0o,A2e,Tryz.results194]
def A72 (T:List (List Int)):List (List Tree):=(T.map fun r=>Tree.slice (A0l r)).map fun t=>[t]
def C7G (T:List (List Int)):TVal:= .t (.slice (A72 T))
attribute [go_sem] C7G
def B4F {i:Nat} {r:List Int} (h:T[i]? =some r):(A72 T)[i]? =some [.slice (A0l r)]:=by simp [A72,h]
def cellT (T:List (List Int)) (a b:Nat):Int:=(T.getD a []).getD b 0
structure Sq (n:Nat) (T:List (List Int)):Prop where
 len:T.length=n
 row: ∀r,r∈T->r.length=n
def Sq.get {n:Nat} (h:Sq n T) {a b:Nat} (ha:a<n) (hb:b<n): ∃r,T[a]? =some r∧r.length=n∧r[b]? =some (cellT T a b):=by
 have hal:a<T.length:=by rw [h.len]; exact ha
 have hrl:=h.row _ (Xw hal);refine ⟨T[a],Qq hal,hrl,?_⟩;unfold cellT;rw [Qz (l:=T),Qq hal,Option.getD_some,Qz,Qq (by omega)]; rfl
def B1G (f:Nat->Int) (a b:Nat):List E:=(List.range b).filterMap fun j=>if a≤j∧0<f j then some ⟨a,j,f j⟩ else none
def A3x (f:Nat->Nat->Int) (n a:Nat):List E:=(List.range a).flatMap fun i=>B1G (f i) i n
def B3f (f:Nat->Int) (a b:Nat):B1G f a (b+1)=B1G f a b++(if a≤b∧0<f b then [⟨a,b,f b⟩] else []):=by
 simp only [B1G,WQ,Qz8];congr 1;by_cases h:a≤b∧0<f b<;>simp [h]
@[simp] theorem C6i (f:Nat->Int) (a:Nat):B1G f a a=[]:=by
 simp only [B1G,List.filterMap_eq_nil_iff,Xk];intro j hj;rw [if_neg (by omega)]
def A4b (f:Nat->Nat->Int) (n a:Nat):A3x f n (a+1)=A3x f n a++B1G (f a) a n:=by simp [A3x,WQ]
def B5S (f:Nat->Int) (a b:Nat):(B1G f a b).length≤b:=by
 have:=List.length_filterMap_le (fun j=>if a≤j∧0<f j then some (⟨a,j,f j⟩:E) else none) (List.range b);simpa [B1G] using this
def B9O (f:Nat->Nat->Int) (n a:Nat):(A3x f n a).length≤a*n:=by
 induction a with
 | zero=>simp [A3x]
 | succ a ih=>
  have:=B5S (f a) a n;rw [A4b,Xv,Vx]; omega
def B4G {f g:Nat->Nat->Int} {n:Nat} (h: ∀a b,a≤b->b<n->f a b=g a b): ∀a,a≤n->A3x f n a=A3x g n a:=by
 intro a
 induction a with
 | zero=>intro _; rfl
 | succ a ih=>
  intro ha;rw [A4b,A4b,ih (by omega)];congr 1;unfold B1G;have: ∀l:List Nat,(∀j,j∈l->j<n)->(l.filterMap fun j=>if a≤j∧0<f a j then some (⟨a,j,f a j⟩:E) else none)=l.filterMap fun j=>if a≤j∧0<g a j then some (⟨a,j,g a j⟩:E) else none:=by
   intro l
   induction l with
   | nil=>intro _; rfl
   | cons j l ih2=>
    intro hl;rw [List.filterMap_cons,List.filterMap_cons,ih2 fun x hx=>hl x (by simp [hx])];by_cases hj:a≤j
    ·rw [h a j hj (hl j (by simp))]
    ·rw [if_neg (by omega),if_neg (by omega)]
  exact this _ fun j hj=>Xk.1 hj
def B9P (n:Nat) (T:List (List Int)) (hn:n≤12) (hT:Sq n T):ACall Tryz.prog 195 [A0j n,C7G T] (tG ⟨n,A3x (cellT T) n n⟩):=by
 have htl:=hT.len;refine ACall.of_body Tryz.func195 rfl (by kernel_rfl) ?_;simp only [entry,Tryz.ntmps195,A0j,C7G];refine zU ?_;refine zR Qv5 Qv5 Qv5 ?_;refine AWp.weak (Weak.openB 1 1 3 rfl rfl (by omega)) ?_;simp only [List.set_cons_succ,List.set_cons_zero,List.length_cons,List.length_nil,Xv,Nat.reduceAdd,List.cons_append,List.nil_append];have hj0:A3x (cellT T) n 0=[]:=rfl;refine AWp.loopS (α:=Nat) 45 (fun a=>[(0,.c (.int .i64 (n:Int))),(1,.c (.slice (A72 T) .none)),(4,.c (.ptr 0 0)),(5,.c (.ptr 1 0)),(6,.c (.int .i64 (a:Int)))]) (fun a=>[.box [.int .i64 0,.nils],.box [.int .i64 (n:Int),.slice (A0f (A3x (cellT T) n a)) (.chain 2)],.chain (A3x (cellT T) n a).length 3]) (fun a=>a≤n) (fun a=>n-a) (0) (hk:=Weak.headL 3 45 [0,1,4,5,6] zW) (h0:=?_) (round:=fun a hI=>?_)
 ·exact Xj _
 ·have ha:a≤n:=hI;clear hI;by_cases hlt:a<n
  ·have hltI:(a:Int)<n:=by omega
   have hA:=A4b (cellT T) n a;have hjl:=B9O (cellT T) n a;have hjl2:a*n≤12*12:=Nat.mul_le_mul (by omega) hn;refine zR (zc @hltI Qv5) Qv5 Qv5 ?_;refine AWp.loopS (α:=Nat) 45 (fun b=>[(0,.c (.int .i64 (n:Int))),(1,.c (.slice (A72 T) .none)),(4,.c (.ptr 0 0)),(5,.c (.ptr 1 0)),(6,.c (.int .i64 (a:Int))),(7,.c (.int .i64 (b:Int)))]) (fun b=>[.box [.int .i64 0,.nils],.box [.int .i64 (n:Int),.slice (A0f (A3x (cellT T) n a++B1G (cellT T a) a b)) (.chain 2)],.chain (A3x (cellT T) n a++B1G (cellT T a) a b).length 3]) (fun b=>a≤b∧b≤n) (fun b=>n-b) (a) (hk:=Weak.headL 3 45 [0,1,4,5,6,7] zW) (h0:=?_) (round:=fun b hI=>?_)
   ·exact ⟨Qk _,ha⟩
   ·obtain ⟨hab,hb⟩:=hI;by_cases hltb:b<n
    ·have hltbI:(b:Int)<n:=by omega
     obtain ⟨r,e1,e2,e3⟩:=hT.get hlt hltb;have f1:=B4F e1;have f2:=A0t e3;have hR:=B3f (cellT T a) a b;have hrl:=B5S (cellT T a) a b;have hLs:A3x (cellT T) n a++B1G (cellT T a) a (b+1)=(A3x (cellT T) n a++B1G (cellT T a) a b)++(if a≤b∧0<cellT T a b then [⟨a,b,cellT T a b⟩] else []):=by rw [hR,Zv]
     have hLl:(A3x (cellT T) n a++B1G (cellT T a) a b).length≤200:=by rw [Xv]; omega
     generalize A3x (cellT T) n a++B1G (cellT T a) a b=L at*;generalize hx:cellT T a b=x at*;by_cases hp:0<x
     ·rw [if_pos ⟨hab,hp⟩] at hLs;have hsn:=B04 L ⟨a,b,x⟩;refine zRc (zc @hltbI (zc @f1 (zc @f2 (zc @hp (zc @A00 (zc @hsn Qv5)))))) Qv5 @A63 ?_;refine ⟨b+1,Weak.headF 3 45 [0,1,4,5,6,7] (zc @hLs Qv5) zW,?_,?_⟩
      ·exact ⟨by omega,hltb⟩
      ·omega
     ·rw [if_neg (by omega),WX] at hLs;refine zR (zc @hltbI (zc @f1 (zc @f2 (zc @hp Qv5)))) Qv5 Qv5 ?_;refine ⟨b+1,Weak.headF 3 45 [0,1,4,5,6,7] (zc @hLs Qv5) zW,?_,?_⟩
      ·exact ⟨by omega,hltb⟩
      ·omega
    ·have eb:b=n:=by omega
     have hnl: ¬((b:Int)<n):=by omega
     rw [eb];rw [eb] at hnl;refine zR (zc @hnl Qv5) Qv5 Qv5 ?_;refine ⟨a+1,Weak.headF 3 45 [0,1,4,5,6] (zc @hA Qv5) zW,?_,?_⟩
     ·exact hlt
     ·omega
  ·have ea:a=n:=by omega
   subst ea;have hnl: ¬((a:Int)<a):=by omega
   refine zR (zc @hnl Qv5) Qv5 Qv5 ?_;simp [A0s,A0r,Blk.cells,ty,Tryz.results195,A0o,A0p,toT,A0d,A0b,A0c,A0a,tG]
def B0M (r:List Int):List Tree:=r.map fun x=>Tree.int .i64 x
def roB (r:List Int):Blk:= .ro (B0M r)
section
variable {P:Program} {rd:Option Nat} {h:Nat} {Q:Exit->St->Prop} {c:Code} {tm:List AVal}
def B75 (pre:List Blk) (t:Nat) (tok:Tok) (n:Nat) (T:List (List Int)) (hT:Sq n T) (ht:tm[t]? =some (.c (.rows (A4t pre.length n n) tok)))
  (hw:AWp P rd h c Q ⟨tm.set t (.c (.slice (A72 T) .none)),pre++T.map roB⟩):AWp P rd h c Q ⟨tm,pre++T.map rowB⟩:=by
 have e1:T.map rowB=(T.map fun r=>(iC r,B0M r)).map fun p=>Blk.box p.1:=by rw [Qq1]; rfl
 have e2:T.map roB=(T.map fun r=>(iC r,B0M r)).map fun p=>Blk.ro p.2:=by rw [Qq1]; rfl
 rw [e1];refine AWp.freezeL _ pre (fun p hp=> ?_) ?_
 ·obtain ⟨r,_,rfl⟩:=QY.1 hp;exact A65 r
 rw [<-e2];refine AWp.rowsData t (A4t pre.length n n) tok (T.map fun r=>Tree.slice (A0l r)) ht (by rw [A9z,XW,hT.len]) (fun i r hr=> ?_) hw;have hi:i<n:=by have:=(Qx.1 hr).1; rwa [A9z] at this
 rw [A90 hi] at hr;cases hr;have hil:i<T.length:=by rw [hT.len]; exact hi
 have hrl:=hT.row _ (Xw hil);refine ⟨_,.slice (A0l T[i]),rfl,by rw [QQ,Qq hil]; rfl,fun ι σ w u hH hu=> ?_⟩;refine B58 (ts:=B0M T[i]) hH ?_ hu (by rw [A0e]; exact hrl) (Qk _) (fun r hr=>A1c hr) (A4Z T[i]);rw [QW (by omega),Nat.add_sub_cancel,QQ,Qq hil]; rfl
end
def B9Q {i:Nat} {r:List Int} (h:T[i]? =some r):(T.map rowB)[i]? =some (.box (iC r)):=by rw [QQ,h]; rfl
def C5d (T:List (List Int)) (i:Nat) (r:List Int):(T.map rowB).set i (.box (iC r))=(T.set i r).map rowB:=by rw [Qj4]; rfl
def A6g (n:Nat) (g:Nat->Nat->Int):List (List Int):=(List.range n).map fun a=>(List.range n).map fun b=>g a b
def A6b (n:Nat) (g:Nat->Nat->Int):Sq n (A6g n g):=⟨by simp [A6g],fun r hr=>by obtain ⟨a,_,rfl⟩:=QY.1 hr; simp⟩
@[simp] theorem C6H (n:Nat) (g:Nat->Nat->Int):(A6g n g).take n=A6g n g:=Zw (by rw [(A6b n g).len]; exact Qk _)
@[simp] theorem C7y (n:Nat) (g:Nat->Nat->Int):((A6g n g).map rowB).take n=(A6g n g).map rowB:=Zw (by rw [XW,(A6b n g).len]; exact Qk _)
def A6E {n:Nat} (g:Nat->Nat->Int) {a:Nat} (ha:a<n):(A6g n g)[a]? =some ((List.range n).map fun b=>g a b):=by simp [A6g,ha]
def B9R {n:Nat} (g:Nat->Nat->Int) {a b:Nat} (ha:a<n) (hb:b<n):cellT (A6g n g) a b=g a b:=by
 unfold cellT;rw [Qz (l:=A6g n g),A6E g ha,Option.getD_some,Qz]; simp [hb]
def B76 {n:Nat} {g f:Nat->Nat->Int} (h: ∀a b,a<n->b<n->g a b=f a b):A6g n g=A6g n f:=by
 unfold A6g;refine Jw fun a ha=>Jw fun b hb=>h a b (Xk.1 ha) (Xk.1 hb)
def C2Q {n:Nat} (g:Nat->Nat->Int) {a b:Nat} (ha:a<n) (hb:b<n) (x:Int):(A6g n g).set a (((List.range n).map fun b=>g a b).set b x)=A6g n (fun i j=>if i=a∧j=b then x else g i j):=by
 apply Zq;intro i;by_cases hi:i<n
 ·rw [A6E _ hi];by_cases e:a=i
  ·subst e;rw [QX (by rw [(A6b n g).len]; exact ha)];congr 1;apply Zq;intro j;by_cases e2:b=j
   ·subst e2; rw [QX (by simpa using hb)]; simp [hb]
   ·rw [Qy e2];by_cases hj:j<n
    ·simp [hj,Ne.symm e2]
    ·simp [hj]
  ·rw [Qy e,A6E _ hi];congr 1;refine Jw fun j _=> ?_;rw [if_neg (by omega)]
 ·rw [Xq (by rw [Yz,(A6b n g).len]; omega),Xq (by rw [(A6b n _).len]; omega)]
def C5e (n:Nat) (g:Nat->Nat->Int) (h: ∀a b,g a b=0):List.replicate n (rowB (List.replicate n 0))=(A6g n g).map rowB:=by
 have e:A6g n g=List.replicate n (List.replicate n 0):=by
  unfold A6g;rw [List.eq_replicate_iff];refine ⟨by simp,fun r hr=> ?_⟩;obtain ⟨a,_,rfl⟩:=QY.1 hr;rw [List.eq_replicate_iff];refine ⟨by simp,fun x hx=> ?_⟩;obtain ⟨b,_,rfl⟩:=QY.1 hx;exact h a b
 rw [e,List.map_replicate]
end Go.Proofs.YtdbdfkohpjefjaaGreat
