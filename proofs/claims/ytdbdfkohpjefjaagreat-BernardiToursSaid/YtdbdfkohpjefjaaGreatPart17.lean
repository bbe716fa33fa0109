/- A part of the proof. -/
import Derived.Test.YtdbdfkohpjefjaaGreatPart12
set_option linter.all false
set_option maxHeartbeats 4000000
set_option maxRecDepth 100000
namespace Go.Proofs.YtdbdfkohpjefjaaGreat
open Go.Sp
def connB (g:G):Bool:=decide (A2q g.es g.n.toNat g.n.toNat=1)
def A0w (g:G):Int:=if checkG g≠0 then checkG g else if connB g=true then 0 else 13
def ribE (r:R):Int:=if A0w r.g≠0 then A0w r.g else if (r.ar.length:Int)≠r.n then 8 else A5c (endsL r.es) (2*(endsL r.es).length) 0 r.ar
structure ROk (r:R):Prop where
 c:checkG r.g=0
 conn:connB r.g=true
 len:(r.ar.length:Int)=r.n
 l: ∀(i:Nat) l,r.ar[i]? =some l->LOk l (ownL (endsL r.es) (i:Int) (2*(endsL r.es).length))
theorem B7F {r:R} (h:ribE r=0):ROk r:=by
 unfold ribE A0w at h;by_cases h1:checkG r.g≠0
 ·simp only [if_pos h1] at h; omega
 ·rw [if_neg h1] at h;by_cases h2:connB r.g=true
  ·rw [if_pos h2] at h;by_cases h3:(r.ar.length:Int)≠r.n
   ·rw [if_neg (by omega),if_pos h3] at h; omega
   ·rw [if_neg (by omega),if_neg h3] at h;exact ⟨by omega,h2,by omega,fun i l hl=>by have:=A98 h i l hl; rwa [Xk] at this⟩
  ·rw [if_neg h2] at h; omega
section
variable {r:R}
theorem A1y (hc:checkG r.g=0) {h:Nat} (hh:h<2*(endsL r.es).length):0≤atL (endsL r.es) h∧atL (endsL r.es) h<r.n:=by
 have hm:h / 2<(endsL r.es).length:=by omega
 have he:=ends_range hc (Xw (l:=endsL r.g.es) hm);unfold atL;rw [Qz,Qq hm];simp only [Option.getD_some];split
 ·exact he.1
 ·exact he.2
theorem ROk.row (hr:ROk r) {h:Nat} (hh:h<2*(endsL r.es).length): ∃l,r.ar[(atL (endsL r.es) h).toNat]? =some l∧r.ar.getD (atL (endsL r.es) h).toNat []=l∧LOk l (ownL (endsL r.es) (atL (endsL r.es) h) (2*(endsL r.es).length))∧(h:Int)∈l:=by
 have ha:=A1y hr.c hh;have hlt:(atL (endsL r.es) h).toNat<r.ar.length:=by have:=hr.len; omega
 have e:=Qq hlt;have hl:=hr.l _ _ e;rw [show (((atL (endsL r.es) h).toNat:Nat):Int)=atL (endsL r.es) h by omega] at hl;refine ⟨_,e,by rw [Qz,e]; rfl,hl,hl.sup _ (A1H.2 ⟨by omega,by omega,by simp⟩)⟩
theorem ROk.next (hr:ROk r) {h:Nat} (hh:h<2*(endsL r.es).length):0≤nextR (endsL r.es) r.ar h∧nextR (endsL r.es) r.ar h<(2*(endsL r.es).length:Nat)∧atL (endsL r.es) (nextR (endsL r.es) r.ar h).toNat=atL (endsL r.es) h:=by
 obtain ⟨l,h1,h2,h3,h4⟩:=hr.row hh;unfold nextR;rw [h2];exact A1H.1 (h3.sub _ (B7j h4))
theorem ROk.next_inj (hr:ROk r) {h k:Nat} (hh:h<2*(endsL r.es).length) (hk:k<2*(endsL r.es).length) (e:nextR (endsL r.es) r.ar h=nextR (endsL r.es) r.ar k):h=k:=by
 have a1:=(hr.next hh).2.2;have a2:=(hr.next hk).2.2;rw [e] at a1;have a3:=a1.symm.trans a2;obtain ⟨l,h1,h2,h3,h4⟩:=hr.row hh;obtain ⟨l',h1',h2',h3',h4'⟩:=hr.row hk;rw [a3,h1'] at h1;cases h1;unfold nextR at e;rw [h2,h2'] at e;have:=B7k h3.nd h4 h4' e;omega
end
theorem A6h (l:List Int) (v:Int) (hl:l.length<2^40):ACall Tryz.prog 101 [A0m l,A0k v] (A01 (decide (v∈l))):=by
 refine ACall.of_body Tryz.func101 rfl (by kernel_rfl) ?_;simp only [entry,Tryz.ntmps101,A0m,A0k];refine zU ?_;refine zR Qw6 Qw6 Qw6 ?_;refine AWp.loopS (α:=Nat) 18 (fun i=>[(0,.c (.slice (A0o l) .none)),(1,.c (.int .i64 v)),(5,.c (.int .i64 (i:Int)))]) (fun i=>[]) (fun i=>i≤l.length∧(v∈l↔v∈l.drop i)) (fun i=>l.length-i) (0) (hk:=A0r.headL 0 18 [0,1,5] zW) (h0:=?_) (round:=fun i hI=>?_)
 ·exact ⟨Xj _,Iff.rfl⟩
 ·obtain ⟨hi,hx⟩:=hI;by_cases hlt:i<l.length
  ·have e1:=A0t (Qq hlt);rw [Zq hlt,Qw] at hx;generalize l[i]=x at*
   repeat' (first|((first|(refine zT ?_;intro K' hK')|(refine zG ?_ ?_<;>(try refine zH ?_)<;>intro hguard<;>(try exact zX)<;>try intro K' hK'))<;>((try simp+contextual only [go_sem,e1,A0d,Int.toNat_natCast,ZQ]);(repeat' first|(with_reducible refine hK' _ _ ?_;clear hK' K')|exact zY|with_reducible refine Qw5 ?_ ?_|(with_reducible intro hpath;try exact zP)|(refine hK' _ _ ?_;clear hK' K')|fail);try refine zS ?_))|(refine zE ?_;refine hK _ _ ?_;clear hK K)|(refine zN ?_;try refine zS ?_)|refine zA ?_|(refine zB ?_;intro K hK)|(refine zC ?_ ?_<;>(try refine zH ?_)<;>intro hcond<;>try exact zX)|fail)
   ·have e:v∈l:=hx.2 (.inl (by omega));simp [A0y,A0x,Blk.cells,ty,Tryz.results101,A0s,A0u,toT,A0e,A0b,A0c,A0a,A01,e]
   ·refine ⟨i+1,A0r.headN 0 18 [0,1,5] zW,?_,?_⟩
    ·refine ⟨hlt,hx.trans ⟨fun h=>h.resolve_left (by omega),.inr⟩⟩
    ·omega
  ·have ei:i=l.length:=by omega
   have e: ¬v∈l:=fun h=>by have:=hx.1 h; rw [ei,Vk] at this; cases this
   refine zR (zc @A0d (zc @ZQ Qw6)) Qw6 Qw6 ?_;simp [A0y,A0x,Blk.cells,ty,Tryz.results101,A0s,A0u,toT,A0e,A0b,A0c,A0a,A01,e]
def A3O (base n i:Nat):List (List ACap):=(List.range i).map fun j=>[.ref (j+base) 1 0 n n]
theorem B55 (base n i:Nat):A3O base n (i+1)=A3O base n i++[[.ref (i+base) 1 0 n n]]:=by simp [A3O,WZ]
theorem A8B (base n i:Nat):(A3O base n i).length=i:=by simp [A3O]
theorem C2b {base n i:Nat} {r:List ACap} (h:r∈A3O base n i):r.length=1:=by obtain ⟨j,_,rfl⟩:=Xq.1 h; rfl
theorem A0Q {base n i m:Nat} (hm:i+base≤m): ∀r,r∈A3O base n i-> ∀c,c∈r->B0j m c:=fun r hr c hc=>by
 obtain ⟨j,hj,rfl⟩:=Xq.1 hr;obtain rfl:=Zz.1 hc;have:=XJ.1 hj;show j+base<m;omega
theorem A8C {base n i j:Nat} (h:j<i):(A3O base n i)[j]? =some [.ref (j+base) 1 0 n n]:=by simp [A3O,h]
def rowB (r:List Int):Blk:= .box (iC r)
theorem B7G (m:Nat) (r:List Int):blkIn m (rowB r):=A0p (fun _=>Qw4)
theorem A09 {m i:Nat} {r:List Int}:A1z m (List.replicate i (rowB r)):=fun b hb=>by
 rw [(WJ.1 hb).2]; exact B7G m r
theorem A0A {m:Nat} {T:List (List Int)}:A1z m (T.map rowB):=fun b hb=>by
 obtain ⟨r,_,rfl⟩:=Xq.1 hb; exact B7G m r
theorem C0m {α:Type} (i:Nat) (x:α):List.replicate i x++[x]=List.replicate (i+1) x:=by rw [<-List.replicate_succ']
theorem C4R {a b:Nat} (h:a≠b):Operand.tmp a≠Operand.tmp b:=fun e=>h (by cases e; rfl)
theorem B7H (n:Nat) (hn:n≤12):ACallH Tryz.prog 194 [.box [.int .i64 0,.nils]] [.c (.int .i64 (n:Int))] (.box [.int .i64 0,.nils]:: .chain n 1::List.replicate n (rowB (List.replicate n 0))) (.c (.rows (A3O 2 n n) (.chain 1))):=by
 refine ACallH.of_body Tryz.func194 rfl (by kernel_rfl) ?_;simp only [entry,Tryz.ntmps194,List.length_cons,List.length_nil,Nat.reduceAdd,Nat.reduceSub,List.replicate_succ,List.replicate_zero,List.cons_append,List.nil_append];refine zR Qw6 Qw6 Qw6 ?_;refine AWp.weak (A0r.opens ((fun t f=>[f,f,f,t,f,f,f,f,f,f,f,f,f,f,f,f]) true false) 1 (by first | omega | simp)) ?_;simp only [A2J,B0l,List.length_cons,List.length_nil,Xv,Nat.reduceAdd,List.cons_append,List.nil_append];refine AWp.asRows 3 1 rfl ?_;simp only [List.set_cons_succ,List.set_cons_zero];have e0:A3O 2 n 0=[]:=rfl;rw [<-e0];refine AWp.loopS (α:=Nat) 16 (fun i=>[(0,.c (.int .i64 (n:Int))),(3,.c (.rows (A3O 2 n i) (.chain 1))),(4,.c (.int .i64 (i:Int)))]) (fun i=>.box [.int .i64 0,.nils]:: .chain i 1::List.replicate i (rowB (List.replicate n 0))) (fun i=>i≤n) (fun i=>n-i) (0) (hk:=A0r.headL ((0)+2) 16 [0,3,4] (by (repeat' (first | exact A0n _ | exact A0v _ | exact A0h _ | refine Qw5 ?_ ?_ | refine A0i ?_ ?_ | refine A0l ?_ ?_ | refine A0g ?_ ?_ | exact Qw4 | exact A0Q (by omega) | exact A09 | exact A0A | (show _<_; omega) | exact A0p (fun _=>Qw4) | (intro c hc; cases hc; done) | (intro c hc; simp only [Qw,Qk,or_false] at hc; subst hc; first | exact Qw4 | exact A0Q (by omega) | exact A09 | exact A0A | (show _<_; omega)) | (intro c hc; simp only [Qw,Qk,or_false] at hc; rcases hc with rfl | rfl<;>first | exact Qw4 | exact A0Q (by omega) | exact A09 | exact A0A | (show _<_; omega)))))) (h0:=?_) (round:=fun i hI=>?_)
 ·exact Xj _
 ·have hi:i≤n:=hI;clear hI;by_cases hlt:i<n
  ·have hltI:(i:Int)<n:=by omega
   have hT:A3O 2 n (i+1)=A3O 2 n i++[[.ref (i+1+1) 1 0 n n]]:=B55 2 n i;have hrb:Blk.box (iC (List.replicate n 0))=rowB (List.replicate n 0):=rfl;have hrs:=C0m i (rowB (List.replicate n 0))
   repeat' (first|((first|(refine zT ?_;intro K' hK')|(refine zG ?_ ?_<;>(try refine zH ?_)<;>intro hguard<;>(try exact zX)<;>try intro K' hK'))<;>((try simp+contextual only [go_sem,hltI,A1F,Int.toNat_natCast,hrb,hrs,Yx,A8B]);(repeat' first|(with_reducible refine hK' _ _ ?_;clear hK' K')|(with_reducible exact C2b (by assumption))|(exact C4R (by decide))|exact zY|with_reducible refine Qw5 ?_ ?_|(with_reducible intro hpath;try exact zP)|(refine hK' _ _ ?_;clear hK' K')|fail);try refine zS ?_))|(refine zE ?_;refine hK _ _ ?_;clear hK K)|(refine zN ?_;try refine zS ?_)|refine zA ?_|(refine zB ?_;intro K hK)|(refine zC ?_ ?_<;>(try refine zH ?_)<;>intro hcond<;>try exact zX)|fail)
   refine ⟨i+1,A0r.headN ((i+1)+2) 16 [0,3,4] (by (repeat' (first | exact A0n _ | exact A0v _ | exact A0h _ | refine Qw5 ?_ ?_ | refine A0i ?_ ?_ | refine A0l ?_ ?_ | refine A0g ?_ ?_ | exact Qw4 | exact A0Q (by omega) | exact A09 | exact A0A | (show _<_; omega) | exact A0p (fun _=>Qw4) | (intro c hc; cases hc; done) | (intro c hc; simp only [Qw,Qk,or_false] at hc; subst hc; first | exact Qw4 | exact A0Q (by omega) | exact A09 | exact A0A | (show _<_; omega)) | (intro c hc; simp only [Qw,Qk,or_false] at hc; rcases hc with rfl | rfl<;>first | exact Qw4 | exact A0Q (by omega) | exact A09 | exact A0A | (show _<_; omega))))) (e1:=by first|rfl|(simp [mask,A1A,hT,List.replicate_succ];done)|(simp [mask,A1A,hT,List.replicate_succ]<;>simp_all<;>omega)) (e2:=by first|rfl|(simp [mask,A1A,hT,List.replicate_succ];done)|(simp [mask,A1A,hT,List.replicate_succ]<;>simp_all<;>omega)),?_,?_⟩
   ·exact hlt
   ·omega
  ·have ei:i=n:=by omega
   subst ei;have hnl: ¬((i:Int)<i):=by omega
   refine zR (zc @hnl Qw6) Qw6 Qw6 ?_;simp [A4r,A1T,A0s,A1S,Tryz.results194]
def A6L (T:List (List Int)):List (List Tree):=(T.map fun r=>Tree.slice (A0o r)).map fun t=>[t]
def C43 (T:List (List Int)):TVal:= .t (.slice (A6L T))
attribute [go_sem] C43
theorem B3f {T:List (List Int)} {i:Nat} {r:List Int} (h:T[i]? =some r):(A6L T)[i]? =some [.slice (A0o r)]:=by simp [A6L,h]
def cellT (T:List (List Int)) (a b:Nat):Int:=(T.getD a []).getD b 0
structure Sq (n:Nat) (T:List (List Int)):Prop where
 len:T.length=n
 row: ∀r,r∈T->r.length=n
theorem Sq.get {n:Nat} {T:List (List Int)} (h:Sq n T) {a b:Nat} (ha:a<n) (hb:b<n): ∃r,T[a]? =some r∧r.length=n∧r[b]? =some (cellT T a b):=by
 have hal:a<T.length:=by rw [h.len]; exact ha
 have hrl:=h.row _ (Xw hal);refine ⟨T[a],Qq hal,hrl,?_⟩;unfold cellT;rw [Qz (l:=T),Qq hal,Option.getD_some,Qz,Qq (by omega)]; rfl
def B02 (f:Nat->Int) (a b:Nat):List E:=(List.range b).filterMap fun j=>if a≤j∧0<f j then some ⟨a,j,f j⟩ else none
def A2Y (f:Nat->Nat->Int) (n a:Nat):List E:=(List.range a).flatMap fun i=>B02 (f i) i n
theorem B1I (f:Nat->Int) (a b:Nat):B02 f a (b+1)=B02 f a b++(if a≤b∧0<f b then [⟨a,b,f b⟩] else []):=by
 simp only [B02,WZ,Qx3];congr 1;by_cases h:a≤b∧0<f b<;>simp [h]
@[simp] theorem C3a (f:Nat->Int) (a:Nat):B02 f a a=[]:=by
 simp only [B02,List.filterMap_eq_nil_iff,XJ];intro j hj;rw [if_neg (by omega)]
theorem A35 (f:Nat->Nat->Int) (n a:Nat):A2Y f n (a+1)=A2Y f n a++B02 (f a) a n:=by simp [A2Y,WZ]
theorem B4h (f:Nat->Int) (a b:Nat):(B02 f a b).length≤b:=by
 have:=List.length_filterMap_le (fun j=>if a≤j∧0<f j then some (⟨a,j,f j⟩:E) else none) (List.range b);simpa [B02] using this
theorem B7I (f:Nat->Nat->Int) (n a:Nat):(A2Y f n a).length≤a*n:=by
 induction a with
 | zero=>simp [A2Y]
 | succ a ih=>
  have:=B4h (f a) a n;rw [A35,Xv,Vq]; omega
theorem B3g {f g:Nat->Nat->Int} {n:Nat} (h: ∀a b,a≤b->b<n->f a b=g a b): ∀a,a≤n->A2Y f n a=A2Y g n a:=by
 intro a
 induction a with
 | zero=>intro _; rfl
 | succ a ih=>
  intro ha;rw [A35,A35,ih (by omega)];congr 1;unfold B02;have: ∀l:List Nat,(∀j,j∈l->j<n)->(l.filterMap fun j=>if a≤j∧0<f a j then some (⟨a,j,f a j⟩:E) else none)=l.filterMap fun j=>if a≤j∧0<g a j then some (⟨a,j,g a j⟩:E) else none:=by
   intro l
   induction l with
   | nil=>intro _; rfl
   | cons j l ih2=>
    intro hl;rw [List.filterMap_cons,List.filterMap_cons,ih2 fun x hx=>hl x (by simp [hx])];by_cases hj:a≤j
    ·rw [h a j hj (hl j (by simp))]
    ·rw [if_neg (by omega),if_neg (by omega)]
  exact this _ fun j hj=>XJ.1 hj
theorem B7J (n:Nat) (T:List (List Int)) (hn:n≤12) (hT:Sq n T):ACall Tryz.prog 195 [A0k n,C43 T] (tG ⟨n,A2Y (cellT T) n n⟩):=by
 have htl:=hT.len;refine ACall.of_body Tryz.func195 rfl (by kernel_rfl) ?_;simp only [entry,Tryz.ntmps195,A0k,C43];refine zU ?_;refine zR Qw6 Qw6 Qw6 ?_;refine AWp.weak (A0r.openB 1 1 3 rfl rfl (by omega)) ?_;simp only [List.set_cons_succ,List.set_cons_zero,List.length_cons,List.length_nil,Xv,Nat.reduceAdd,List.cons_append,List.nil_append];have hj0:A2Y (cellT T) n 0=[]:=rfl;refine AWp.loopS (α:=Nat) 45 (fun a=>[(0,.c (.int .i64 (n:Int))),(1,.c (.slice (A6L T) .none)),(4,.c (.ptr 0 0)),(5,.c (.ptr 1 0)),(6,.c (.int .i64 (a:Int)))]) (fun a=>[.box [.int .i64 0,.nils],.box [.int .i64 (n:Int),.slice (A0f (A2Y (cellT T) n a)) (.chain 2)],.chain (A2Y (cellT T) n a).length 3]) (fun a=>a≤n) (fun a=>n-a) (0) (hk:=A0r.headL 3 45 [0,1,4,5,6] zW) (h0:=?_) (round:=fun a hI=>?_)
 ·exact Xj _
 ·have ha:a≤n:=hI;clear hI;by_cases hlt:a<n
  ·have hltI:(a:Int)<n:=by omega
   have hA:=A35 (cellT T) n a;have hjl:=B7I (cellT T) n a;have hjl2:a*n≤12*12:=Nat.mul_le_mul (by omega) hn;refine zR (zc @hltI Qw6) Qw6 Qw6 ?_;refine AWp.loopS (α:=Nat) 45 (fun b=>[(0,.c (.int .i64 (n:Int))),(1,.c (.slice (A6L T) .none)),(4,.c (.ptr 0 0)),(5,.c (.ptr 1 0)),(6,.c (.int .i64 (a:Int))),(7,.c (.int .i64 (b:Int)))]) (fun b=>[.box [.int .i64 0,.nils],.box [.int .i64 (n:Int),.slice (A0f (A2Y (cellT T) n a++B02 (cellT T a) a b)) (.chain 2)],.chain (A2Y (cellT T) n a++B02 (cellT T a) a b).length 3]) (fun b=>a≤b∧b≤n) (fun b=>n-b) (a) (hk:=A0r.headL 3 45 [0,1,4,5,6,7] zW) (h0:=?_) (round:=fun b hI=>?_)
   ·exact ⟨QQ _,ha⟩
   ·obtain ⟨hab,hb⟩:=hI;by_cases hltb:b<n
    ·have hltbI:(b:Int)<n:=by omega
     obtain ⟨r,e1,e2,e3⟩:=hT.get hlt hltb;have f1:=B3f e1;have f2:=A0t e3;have hR:=B1I (cellT T a) a b;have hrl:=B4h (cellT T a) a b;have hLs:A2Y (cellT T) n a++B02 (cellT T a) a (b+1)=(A2Y (cellT T) n a++B02 (cellT T a) a b)++(if a≤b∧0<cellT T a b then [⟨a,b,cellT T a b⟩] else []):=by rw [hR,Zv]
     have hLl:(A2Y (cellT T) n a++B02 (cellT T a) a b).length≤200:=by rw [Xv]; omega
     generalize A2Y (cellT T) n a++B02 (cellT T a) a b=L at*;generalize hx:cellT T a b=x at*;by_cases hp:0<x
     ·rw [if_pos ⟨hab,hp⟩] at hLs;have hsn:=A93 L ⟨a,b,x⟩;refine zRc (zc @hltbI (zc @f1 (zc @f2 (zc @hp (zc @A00 (zc @hsn Qw6)))))) Qw6 @A5U ?_;refine ⟨b+1,A0r.headF 3 45 [0,1,4,5,6,7] (zc @hLs Qw6) zW,?_,?_⟩
      ·exact ⟨by omega,hltb⟩
      ·omega
     ·rw [if_neg (by omega),WY] at hLs;refine zR (zc @hltbI (zc @f1 (zc @f2 (zc @hp Qw6)))) Qw6 Qw6 ?_;refine ⟨b+1,A0r.headF 3 45 [0,1,4,5,6,7] (zc @hLs Qw6) zW,?_,?_⟩
      ·exact ⟨by omega,hltb⟩
      ·omega
    ·have eb:b=n:=by omega
     have hnl: ¬((b:Int)<n):=by omega
     rw [eb];rw [eb] at hnl;refine zR (zc @hnl Qw6) Qw6 Qw6 ?_;refine ⟨a+1,A0r.headF 3 45 [0,1,4,5,6] (zc @hA Qw6) zW,?_,?_⟩
     ·exact hlt
     ·omega
  ·have ea:a=n:=by omega
   subst ea;have hnl: ¬((a:Int)<a):=by omega
   refine zR (zc @hnl Qw6) Qw6 Qw6 ?_;simp [A0y,A0x,Blk.cells,ty,Tryz.results195,A0s,A0u,toT,A0e,A0b,A0c,A0a,tG]
def B4i (r:List Int):List Tree:=r.map fun x=>Tree.int .i64 x
def roB (r:List Int):Blk:= .ro (B4i r)
section
variable {P:Program} {rd:Option Nat} {h:Nat} {Q:Exit->St->Prop} {c:Code} {tm:List AVal}
theorem B56 (pre:List Blk) (t:Nat) (tok:Tok) (n:Nat) (T:List (List Int)) (hT:Sq n T) (ht:tm[t]? =some (.c (.rows (A3O pre.length n n) tok)))
  (hw:AWp P rd h c Q ⟨tm.set t (.c (.slice (A6L T) .none)),pre++T.map roB⟩):AWp P rd h c Q ⟨tm,pre++T.map rowB⟩:=by
 have e1:T.map rowB=(T.map fun r=>(iC r,B4i r)).map fun p=>Blk.box p.1:=by rw [JV]; rfl
 have e2:T.map roB=(T.map fun r=>(iC r,B4i r)).map fun p=>Blk.ro p.2:=by rw [JV]; rfl
 rw [e1];refine AWp.freezeL _ pre (fun p hp=> ?_) ?_
 ·obtain ⟨r,_,rfl⟩:=Xq.1 hp;exact B3Y r
 rw [<-e2];refine AWp.rowsData t (A3O pre.length n n) tok (T.map fun r=>Tree.slice (A0o r)) ht (by rw [A8B,XY,hT.len]) (fun i r hr=> ?_) hw;have hi:i<n:=by have:=(Qx.1 hr).1; rwa [A8B] at this
 rw [A8C hi] at hr;cases hr;have hil:i<T.length:=by rw [hT.len]; exact hi
 have hrl:=hT.row _ (Xw hil);refine ⟨_,.slice (A0o T[i]),rfl,by rw [QY,Qq hil]; rfl,fun ι σ w u hH hu=> ?_⟩;refine B92 (ts:=B4i T[i]) hH ?_ hu (by rw [A0d]; exact hrl) (QQ _) (fun r hr=>A1c hr) (B14 T[i]);rw [QJ (by omega),Nat.add_sub_cancel,QY,Qq hil]; rfl
end
theorem B7K {T:List (List Int)} {i:Nat} {r:List Int} (h:T[i]? =some r):(T.map rowB)[i]? =some (.box (iC r)):=by rw [QY,h]; rfl
theorem C2c (T:List (List Int)) (i:Nat) (r:List Int):(T.map rowB).set i (.box (iC r))=(T.set i r).map rowB:=by rw [Qz5]; rfl
def A56 (n:Nat) (g:Nat->Nat->Int):List (List Int):=(List.range n).map fun a=>(List.range n).map fun b=>g a b
theorem A52 (n:Nat) (g:Nat->Nat->Int):Sq n (A56 n g):=⟨by simp [A56],fun r hr=>by obtain ⟨a,_,rfl⟩:=Xq.1 hr; simp⟩
@[simp] theorem C36 (n:Nat) (g:Nat->Nat->Int):(A56 n g).take n=A56 n g:=ZX (by rw [(A52 n g).len]; exact QQ _)
@[simp] theorem C4l (n:Nat) (g:Nat->Nat->Int):((A56 n g).map rowB).take n=(A56 n g).map rowB:=ZX (by rw [XY,(A52 n g).len]; exact QQ _)
theorem A6i {n:Nat} (g:Nat->Nat->Int) {a:Nat} (ha:a<n):(A56 n g)[a]? =some ((List.range n).map fun b=>g a b):=by simp [A56,ha]
theorem B7L {n:Nat} (g:Nat->Nat->Int) {a b:Nat} (ha:a<n) (hb:b<n):cellT (A56 n g) a b=g a b:=by
 unfold cellT;rw [Qz (l:=A56 n g),A6i g ha,Option.getD_some,Qz]; simp [hb]
theorem B57 {n:Nat} {g f:Nat->Nat->Int} (h: ∀a b,a<n->b<n->g a b=f a b):A56 n g=A56 n f:=by
 unfold A56;refine Wj fun a ha=>Wj fun b hb=>h a b (XJ.1 ha) (XJ.1 hb)
theorem C0n {n:Nat} (g:Nat->Nat->Int) {a b:Nat} (ha:a<n) (hb:b<n) (x:Int):(A56 n g).set a (((List.range n).map fun b=>g a b).set b x)=A56 n (fun i j=>if i=a∧j=b then x else g i j):=by
 apply XZ;intro i;by_cases hi:i<n
 ·rw [A6i _ hi];by_cases e:a=i
  ·subst e;rw [QW (by rw [(A52 n g).len]; exact ha)];congr 1;apply XZ;intro j;by_cases e2:b=j
   ·subst e2; rw [QW (by simpa using hb)]; simp [hb]
   ·rw [QX e2];by_cases hj:j<n
    ·simp [hj,Ne.symm e2]
    ·simp [hj]
  ·rw [QX e,A6i _ hi];congr 1;refine Wj fun j _=> ?_;rw [if_neg (by omega)]
 ·rw [QV (by rw [Yz,(A52 n g).len]; omega),QV (by rw [(A52 n _).len]; omega)]
theorem C2d (n:Nat) (g:Nat->Nat->Int) (h: ∀a b,g a b=0):List.replicate n (rowB (List.replicate n 0))=(A56 n g).map rowB:=by
 have e:A56 n g=List.replicate n (List.replicate n 0):=by
  unfold A56;rw [List.eq_replicate_iff];refine ⟨by simp,fun r hr=> ?_⟩;obtain ⟨a,_,rfl⟩:=Xq.1 hr;rw [List.eq_replicate_iff];refine ⟨by simp,fun x hx=> ?_⟩;obtain ⟨b,_,rfl⟩:=Xq.1 hx;exact h a b
 rw [e,List.map_replicate]
end Go.Proofs.YtdbdfkohpjefjaaGreat
