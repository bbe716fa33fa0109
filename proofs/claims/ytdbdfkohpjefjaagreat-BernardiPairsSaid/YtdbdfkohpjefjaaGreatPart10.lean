/- A part of the proof. -/
import Derived.Test.YtdbdfkohpjefjaaGreatPart07
import Derived.Test.YtdbdfkohpjefjaaGreatPart06
set_option linter.all false
set_option maxHeartbeats 4000000
set_option maxRecDepth 100000
namespace Go.Proofs.YtdbdfkohpjefjaaGreat
open Go.Sp
def bC (R:List Bool):List ACell:=R.map ACell.bool
def A44 (R:List Bool):List (List Tree):=R.map fun b=>[Tree.bool b]
def B06 (R:List Bool):TVal:= .t (.slice (A44 R))
attribute [go_sem] B06
def A1Y (R:List Bool):(bC R).length=R.length:=by simp [bC]
def A4Z (R:List Bool):(A44 R).length=R.length:=by simp [A44]
variable {i:Nat}
def B07 {R:List Bool} {b:Bool} (h:R[i]? =some b):(bC R)[i]? =some (.bool b):=by simp [bC,h]
def B9e {R:List Bool} {b:Bool} (h:R[i]? =some b):(A44 R)[i]? =some [.bool b]:=by simp [A44,h]
def A68 (R:List Bool) (i:Nat) (b:Bool):(bC R).set i (.bool b)=bC (R.set i b):=by simp [bC,Qj8]
def B4o {R:List Bool} {b:Bool} (h:R[i]? =some b):(bC R).drop i= .bool b::(bC R).drop (i+1):=by
 have hl:=(Qx.1 h);rw [Zz (by rw [A1Y]; exact hl.1)];obtain ⟨h1,rfl⟩:=hl;simp [bC]
def A3U (n:Nat):A7a [ACell.bool false] n=bC (List.replicate n false):=by
 simp [A7a,bC]
def B7P (es:List E) (a b:Nat):Bool:=decide (0<A1H es (min (a:Int) b) (max (a:Int) b))
def A3V (es:List E) (a:Nat) (R:List Bool) (b:Nat):List Bool:=if R.getD a false&&B7P es a b then R.set b true else R
def rRow (es:List E) (n a:Nat) (R:List Bool):List Bool:=(List.range n).foldl (A3V es a) R
def A7J (es:List E) (n:Nat) (R:List Bool):List Bool:=(List.range n).foldl (fun R a=>rRow es n a R) R
def A11 (es:List E) (n v k:Nat):List Bool:=(List.range k).foldl (fun R _=>A7J es n R) ((List.replicate n false).set v true)
def A9m (es:List E) (n v:Nat):List Bool:=A11 es n v n
def A1b {α:Type} (f:α->Nat->α) (z:α) (k:Nat):(List.range (k+1)).foldl f z=f ((List.range k).foldl f z) k:=by rw [WX,Qw1]; rfl
def A3p {f:List Bool->Nat->List Bool} (h: ∀R i,(f R i).length=R.length) (l:List Nat) (R:List Bool):(l.foldl f R).length=R.length:=by
 induction l generalizing R with
 | nil=>rfl
 | cons x xs ih=>rw [List.foldl_cons,ih,h]
def A69 (es:List E) (a:Nat) (R:List Bool) (b:Nat):(A3V es a R b).length=R.length:=by unfold A3V; split<;>simp
def B52 (es:List E) (n a:Nat) (R:List Bool):(rRow es n a R).length=R.length:=A3p (A69 es a) _ _
def B6O (es:List E) (n:Nat) (R:List Bool):(A7J es n R).length=R.length:=A3p (fun R a=>B52 es n a R) _ _
def A50 (es:List E) (n v k:Nat):(A11 es n v k).length=n:=by
 unfold A11; rw [A3p (fun R _=>B6O es n R)]; simp
def B9f {es:List E} {a:Nat} {R:List Bool} {b:Nat} {x:Bool} (h:R[a]? =some x):A3V es a R b=if x=true∧0<A1H es (min (a:Int) b) (max (a:Int) b) then R.set b true else R:=by
 unfold A3V B7P;rw [Qz,h,Option.getD_some];cases x<;>simp
def A8n {R:List Bool} {n a:Nat} (h:R.length=n) (ha:a<n): ∃x,R[a]? =some x:=⟨_,Qq (by omega)⟩
variable {H:List Blk}
def C6k {R:List Bool} {n:Nat} (h:R.length=n) {id:Nat} (hid:H[id]? =some (.box (bC R))):A0d H (.ref id 1 0 n n)=some (.slice (A44 R)):=by
 have e:A0d H (.ref id 1 0 n n)=A0b H (.ref id 1 0 n n):=rfl;have hf:=A4N (rows:=A44 R) (k:=1) (cap:=n) (fun r hr=>by obtain ⟨b,_,rfl⟩:=QJ.1 hr; rfl) (fun r hr=>by obtain ⟨b,_,rfl⟩:=QJ.1 hr; rfl) (by rw [A4Z]; omega);have hfl:flatRows (A44 R)=bC R:=by
  simp only [flatRows,A44,bC];clear e hf hid h
  induction R with
  | nil=>rfl
  | cons x xs ih=>simp only [XQ,List.flatten_cons,WY,ih]; rfl
 rw [hfl,A4Z,h] at hf;unfold A4M at hf;rw [e];simp only [A0b,hid,Blk.cells,Option.bind_some];split at hf
 ·rename_i hc;rw [if_pos hc];cases hm:(((bC R).drop 0).take (n*1)).mapM A0a with
  | none=>rw [hm] at hf; simp at hf
  | some ts=>
   rw [hm] at hf;simp only [Option.bind_some] at hf;split at hf
   ·simp at hf; simp [hf]
   ·simp at hf
 ·simp at hf
def B6P (g:G) (n v:Nat) (hc:checkG g=0) (hn:g.n=n) (hv:v<n) (hl:g.es.length<2^30):ACall Tryz.prog 145 [tG g,A0n v] (B06 (A9m g.es n v)):=by
 have hn12:=(A0j.1 hc).1;have hbe: ∀a b:Nat,ACall Tryz.prog 176 [tG g,A0n a,A0n b] (A0n (A1H g.es (min (a:Int) b) (max (a:Int) b))):=fun a b=>A5X g a b (by omega);obtain ⟨gn,es⟩:=g;simp only at hn hl hn12 hbe ⊢;subst hn;refine ACall.of_body Tryz.func145 rfl (by kernel_rfl) ?_;simp only [entry,Tryz.ntmps145,tG,A0n];refine zU ?_;refine zM Qv6 (zc @A3U (zc @A68 (zc @A1Y (zc @Yz.{0} Qv6)))) Qv6 Qv6 Qv6 (ed fun hp hpc=>?_);refine AWp.loopS (α:=Nat) 48 (fun k=>[(1,.c (.int .i64 (v:Int))),(2,.c (.ptr 0 0)),(5,.c (.ref 1 1 0 n n)),(6,.c (.int .i64 (k:Int)))]) (fun k=>[.box [.int .i64 (n:Int),.slice (A0f es) .none],.box (bC (A11 es n v k))]) (fun k=>k≤n) (fun k=>n-k) (0) (hk:=Weak.headL 2 48 [1,2,5,6] zW) (h0:=?_) (round:=fun k hI=>?_)
 ·exact Xw _
 ·have hk:k≤n:=hI;clear hI;by_cases hlt:k<n
  ·have hltI:(k:Int)<n:=by omega
   have hN:A11 es n v (k+1)=A7J es n (A11 es n v k):=A1b _ _ _;have hlen:=A50 es n v k;generalize A11 es n v k=R at*;refine zR (zc @hltI Qv6) Qv6 Qv6 ?_;refine AWp.loopS (α:=Nat) 48 (fun a=>[(1,.c (.int .i64 (v:Int))),(2,.c (.ptr 0 0)),(5,.c (.ref 1 1 0 n n)),(6,.c (.int .i64 (k:Int))),(7,.c (.int .i64 (a:Int)))]) (fun a=>[.box [.int .i64 (n:Int),.slice (A0f es) .none],.box (bC ((List.range a).foldl (fun R a=>rRow es n a R) R))]) (fun a=>a≤n) (fun a=>n-a) (0) (hk:=Weak.headL 2 48 [1,2,5,6,7] zW) (h0:=?_) (round:=fun a hI=>?_)
   ·exact Xw _
   ·have ha:a≤n:=hI;clear hI;by_cases hlta:a<n
    ·have hltaI:(a:Int)<n:=by omega
     have hA:(List.range (a+1)).foldl (fun R a=>rRow es n a R) R=rRow es n a ((List.range a).foldl (fun R a=>rRow es n a R) R):=A1b _ _ _;have hlen2:((List.range a).foldl (fun R a=>rRow es n a R) R).length=n:=by rw [A3p (fun R a=>B52 es n a R),hlen]
     generalize (List.range a).foldl (fun R a=>rRow es n a R) R=S at*;refine zR (zc @hltaI Qv6) Qv6 Qv6 ?_;refine AWp.loopS (α:=Nat) 48 (fun b=>[(1,.c (.int .i64 (v:Int))),(2,.c (.ptr 0 0)),(5,.c (.ref 1 1 0 n n)),(6,.c (.int .i64 (k:Int))),(7,.c (.int .i64 (a:Int))),(8,.c (.int .i64 (b:Int)))]) (fun b=>[.box [.int .i64 (n:Int),.slice (A0f es) .none],.box (bC ((List.range b).foldl (A3V es a) S))]) (fun b=>b≤n) (fun b=>n-b) (0) (hk:=Weak.headL 2 48 [1,2,5,6,7,8] zW) (h0:=?_) (round:=fun b hI=>?_)
     ·exact Xw _
     ·have hb:b≤n:=hI;clear hI;by_cases hltb:b<n
      ·have hltbI:(b:Int)<n:=by omega
       have hB:(List.range (b+1)).foldl (A3V es a) S=A3V es a ((List.range b).foldl (A3V es a) S) b:=A1b _ _ _;have hlen3:((List.range b).foldl (A3V es a) S).length=n:=by rw [A3p (A69 es a),hlen2]
       generalize (List.range b).foldl (A3V es a) S=T at*;obtain ⟨x,hx⟩:=A8n hlen3 hlta;have hd:=B4o hx;have hst:=B9f (es:=es) (b:=b) hx;have hbb:=hbe a b;have hg:=B07 hx;generalize A1H es (min (a:Int) b) (max (a:Int) b)=c at*;cases x with
       | true=>
        by_cases hcp:0<c
        ·rw [if_pos ⟨rfl,hcp⟩] at hst;rw [hst] at hB;refine zR (zc @hltbI (zc @hd (zc @hg (zc @hcp (zc @A1Y (zc @hlen3 (zc @A68 Qv6))))))) (zc hbb Qv6) Qv6 ?_;refine ⟨b+1,Weak.headF 2 48 [1,2,5,6,7,8] (zc @hB Qv6) zW,?_,?_⟩
         ·exact hltb
         ·omega
        ·rw [if_neg (by simp [hcp])] at hst;rw [hst] at hB;refine zR (zc @hltbI (zc @hd (zc @hg (zc @hcp (zc @A1Y (zc @hlen3 Qv6)))))) (zc hbb Qv6) Qv6 ?_;refine ⟨b+1,Weak.headF 2 48 [1,2,5,6,7,8] (zc @hB Qv6) zW,?_,?_⟩
         ·exact hltb
         ·omega
       | false=>
        rw [if_neg (by simp)] at hst;rw [hst] at hB;refine zR (zc @hltbI (zc @hd (zc @hg (zc @A1Y (zc @hlen3 Qv6))))) Qv6 Qv6 ?_;refine ⟨b+1,Weak.headF 2 48 [1,2,5,6,7,8] (zc @hB Qv6) zW,?_,?_⟩
        ·exact hltb
        ·omega
      ·have eb:b=n:=by omega
       subst eb;have hnl: ¬((b:Int)<b):=by omega
       have hA':(List.range (a+1)).foldl (fun R a=>rRow es b a R) R=(List.range b).foldl (A3V es a) S:=hA;refine zR (zc @hnl Qv6) Qv6 Qv6 ?_;refine ⟨a+1,Weak.headF 2 48 [1,2,5,6,7] (zc @hA' Qv6) zW,?_,?_⟩
       ·exact hlta
       ·omega
    ·have ea:a=n:=by omega
     subst ea;have hnl: ¬((a:Int)<a):=by omega
     have hN':A11 es a v (k+1)=(List.range a).foldl (fun R b=>rRow es a b R) R:=hN;refine zR (zc @hnl Qv6) Qv6 Qv6 ?_;refine ⟨k+1,Weak.headF 2 48 [1,2,5,6] (zc @hN' Qv6) zW,?_,?_⟩
     ·exact hlt
     ·omega
  ·have ek:k=n:=by omega
   subst ek;have hnl: ¬((k:Int)<k):=by omega
   have hlen:=A50 es k v k;refine zR (zc @hnl Qv6) Qv6 Qv6 ?_;have hR:=C6k hlen (H:=[Blk.box [.int .i64 (k:Int),.slice (A0f es) .none],Blk.box (bC (A11 es k v k))]) (id:=1) rfl;simp [A00,A0z,Tryz.results145,A0v,A0w,toT,B06,A9m,hR]
def A9n (R S:List Bool) (u:Nat):List Bool:=S.set u (S.getD u false||R.getD u false)
def orK (R S:List Bool) (k:Nat):List Bool:=(List.range k).foldl (A9n R) S
def B08 (R S:List Bool) (u:Nat):(A9n R S u).length=S.length:=by simp [A9n]
def B9g (R S:List Bool) (k:Nat):(orK R S k).length=S.length:=A3p (B08 R) _ _
def seenStep (es:List E) (n:Nat) (S:List Bool) (v:Nat):List Bool:=if S.getD v false then S else orK (A9m es n v) S n
def A6A (es:List E) (n v:Nat):List Bool:=(List.range v).foldl (seenStep es n) (List.replicate n false)
def B2N (es:List E) (n v:Nat):(A6A es n v).length=n:=by
 unfold A6A;rw [A3p (fun S v=>by unfold seenStep; split<;>simp [B9g])]; simp
def A2p (es:List E) (n:Nat):Nat->Nat
 | 0=>0
 | v+1=>if (A6A es n v).getD v false then A2p es n v else A2p es n v+1
def B9h (es:List E) (n v:Nat):A2p es n v≤v:=by
 induction v with
 | zero=>exact QQ _
 | succ v ih=>simp only [A2p]; split<;>omega
def B4p {R:List Bool} {x:Bool} (h:R[i]? =some x):R.getD i false=x:=by rw [Qz,h]; rfl
def C2k (g:G) (n:Nat) (hc:checkG g=0) (hn:g.n=n) (hl:g.es.length<2^30):ACall Tryz.prog 88 [tG g] (A0n (A2p g.es n n)):=by
 have hn12:=(A0j.1 hc).1;have hre: ∀v:Nat,v<n->ACall Tryz.prog 145 [tG g,A0n v] (B06 (A9m g.es n v)):=fun v hv=>B6P g n v hc hn hv hl;obtain ⟨gn,es⟩:=g;simp only at hn hl hn12 hre ⊢;subst hn;refine ACall.of_body Tryz.func88 rfl (by kernel_rfl) ?_;simp only [entry,Tryz.ntmps88,tG];refine zU ?_;refine zM Qv6 (zc @A3U (zc @A68 (zc @A1Y (zc @Yz.{0} Qv6)))) Qv6 Qv6 Qv6 (ed fun hp hpc=>?_);refine AWp.loopS (α:=Nat) 46 (fun v=>[(1,.c (.ptr 0 0)),(2,.c (.int .i64 0)),(3,.c (.int .i64 (A2p es n v))),(4,.c (.ref 1 1 0 n n)),(5,.c (.int .i64 (v:Int)))]) (fun v=>[.box [.int .i64 (n:Int),.slice (A0f es) .none],.box (bC (A6A es n v))]) (fun v=>v≤n) (fun v=>n-v) (0) (hk:=Weak.headL 2 46 [1,2,3,4,5] zW) (h0:=?_) (round:=fun v hI=>?_)
 ·exact Xw _
 ·have hv:v≤n:=hI;clear hI;have hlen:=B2N es n v;have hpl:=B9h es n v;by_cases hlt:v<n
  ·have hltI:(v:Int)<n:=by omega
   have hS1:A6A es n (v+1)=seenStep es n (A6A es n v) v:=A1b _ _ _;have hP1:A2p es n (v+1)=if (A6A es n v).getD v false then A2p es n v else A2p es n v+1:=rfl
   have hrv:=hre v hlt;have hrl:=A50 es n v n;generalize A2p es n v=p at*;generalize A6A es n v=S at*;obtain ⟨x,hx⟩:=A8n hlen hlt;unfold seenStep at hS1;rw [B4p hx] at hS1 hP1;have hd:=B4o hx;have hg:=B07 hx;cases x with
   | true=>
    rw [if_pos rfl] at hS1 hP1;refine zR (zc @hltI (zc @hd (zc @hg (zc @A1Y (zc @hlen Qv6))))) Qv6 Qv6 ?_;refine ⟨v+1,Weak.headF 2 46 [1,2,3,4,5] (zc @hS1 (zc @hP1 Qv6)) zW,?_,?_⟩
    ·exact hlt
    ·omega
   | false=>
    rw [if_neg (by simp)] at hS1 hP1;change (A9m es n v).length=n at hrl;generalize A9m es n v=R at*;refine zR (zc @hltI (zc @hd (zc @hg (zc @A1Y (zc @hlen Qv6))))) (zc hrv Qv6) Qv6 ?_;refine AWp.loopS (α:=Nat) 46 (fun u=>[(1,.c (.ptr 0 0)),(2,.c (.int .i64 0)),(3,.c (.int .i64 ((p:Int)+1))),(4,.c (.ref 1 1 0 n n)),(5,.c (.int .i64 (v:Int))),(6,.c (.slice (A44 R) .none)),(7,.c (.int .i64 (u:Int)))]) (fun u=>[.box [.int .i64 (n:Int),.slice (A0f es) .none],.box (bC (orK R S u))]) (fun u=>u≤n) (fun u=>n-u) (0) (hk:=Weak.headL 2 46 [1,2,3,4,5,6,7] zW) (h0:=?_) (round:=fun u hI=>?_)
    ·exact Xw _
    ·have hu:u≤n:=hI;clear hI;have hlen2:(orK R S u).length=n:=(B9g R S u).trans hlen;by_cases hltu:u<n
     ·have hltuI:(u:Int)<n:=by omega
      have hO:orK R S (u+1)=A9n R (orK R S u) u:=A1b _ _ _;generalize orK R S u=T at*;obtain ⟨y,hy⟩:=A8n hlen2 hltu;obtain ⟨z,hz⟩:=A8n hrl hltu;unfold A9n at hO;rw [B4p hy,B4p hz] at hO;have hd2:=B4o hy;have hg2:=B07 hy;have hg3:=B9e hz;cases y with
      | true=>
       rw [Bool.true_or] at hO;refine zR (zc @hltuI (zc @hd2 (zc @hg2 (zc @hg3 (zc @A1Y (zc @hlen2 (zc @A68 (zc @A4Z (zc @hrl Qv6))))))))) Qv6 Qv6 ?_;refine ⟨u+1,Weak.headF 2 46 [1,2,3,4,5,6,7] (zc @hO Qv6) zW,?_,?_⟩
       ·exact hltu
       ·omega
      | false=>
       rw [Qq3] at hO;refine zR (zc @hltuI (zc @hd2 (zc @hg2 (zc @hg3 (zc @A1Y (zc @hlen2 (zc @A68 (zc @A4Z (zc @hrl Qv6))))))))) Qv6 Qv6 ?_;refine ⟨u+1,Weak.headF 2 46 [1,2,3,4,5,6,7] (zc @hO Qv6) zW,?_,?_⟩
       ·exact hltu
       ·omega
     ·have eu:u=n:=by omega
      subst eu;have hnl: ¬((u:Int)<u):=by omega
      refine zR (zc @hnl Qv6) Qv6 Qv6 ?_;refine ⟨v+1,Weak.headF 2 46 [1,2,3,4,5] (zc @hS1 (zc @hP1 Qv6)) zW,?_,?_⟩
      ·exact hlt
      ·omega
  ·have ev:v=n:=by omega
   subst ev;have hnl: ¬((v:Int)<v):=by omega
   refine zR (zc @hnl Qv6) Qv6 Qv6 ?_;simp [A00,A0z,Blk.cells,ty,Tryz.results88,A0v,A0w,toT,A0d,A0b,A0c,A0a,A0n]
def A2O {α:Type} {P:List α->Prop} (h0:P []) (h1: ∀l x,P l->P (l++[x])) (l:List α):P l:=by
 have: ∀r:List α,P r.reverse:=fun r=>by
  induction r with
  | nil=>simpa using h0
  | cons x xs ih=>rw [List.reverse_cons]; exact h1 _ _ ih
 simpa using this l.reverse
inductive Conn (l:List (Int×Int)) (a:Nat):Nat->Prop
 | refl:Conn l a a
 | step {b c:Nat}:Conn l a b->(((b:Int),(c:Int))∈l∨((c:Int),(b:Int))∈l)->Conn l a c
def Conn.trans {l:List (Int×Int)} {a b c:Nat} (h1:Conn l a b) (h2:Conn l b c):Conn l a c:=by
 induction h2 with
 | refl=>exact h1
 | step _ h ih=>exact .step ih h
def Conn.one {l:List (Int×Int)} {b c:Nat} (h:((b:Int),(c:Int))∈l∨((c:Int),(b:Int))∈l):Conn l b c:= .step .refl h
def Conn.symm {l:List (Int×Int)} {a b:Nat} (h:Conn l a b):Conn l b a:=by
 induction h with
 | refl=>exact .refl
 | step _ h ih=>exact (Conn.one h.symm).trans ih
def Conn.mono {l m:List (Int×Int)} (hs: ∀p,p∈l->p∈m) {a b:Nat} (h:Conn l a b):Conn m a b:=by
 induction h with
 | refl=>exact .refl
 | step _ h ih=>exact .step ih (h.imp (hs _) (hs _))
def Conn.bound {l:List (Int×Int)} {n:Nat} (hr: ∀p,p∈l->(0≤p.1∧p.1<n)∧(0≤p.2∧p.2<n)) {a b:Nat} (h:Conn l a b) (ha:n≤a):b=a:=by
 induction h with
 | refl=>rfl
 | step _ h ih=>
  rcases h with h | h
  ·have:=hr _ h; simp only at this; omega
  ·have:=hr _ h; simp only at this; omega
variable {F:List Nat}
def A8o (h:FOk F): ∀{u:Nat},u<12->F[rootF F 12 u]? =some (rootF F 12 u):=by
 intro u
 induction u using Nat.strongRecOn with
 | _ u ih=>
  intro hu;have hul:u<F.length:=by rw [h.len]; exact hu
  have hle:=h.le u hul;rw [A2U h hul];by_cases e:F[u]=u
  ·rw [if_pos e,Qq hul,e]
  ·rw [if_neg e]; exact ih _ (by omega) (by omega)
variable {u:Nat}
def A5a (h:FOk F) (hu:u<12) (e:F[u]? =some u):rootF F 12 u=u:=by
 have hul:u<F.length:=by rw [h.len]; exact hu
 rw [A2U h hul,if_pos (by rw [Qq hul] at e; exact JX e)]
def root_lt (h:FOk F) (hu:u<12):rootF F 12 u<12:=by
 have:=A22 h (n:=12) hu; omega
def B11 (h:FOk F) (hu:u<12):rootF F 12 u=u↔F[u]? =some u:=
 ⟨fun e=>by have:=A8o h hu; rwa [e] at this,A5a h hu⟩
def B6Q (h:FOk F) {M m:Nat} (hM:M<12) (hm:m≤M) (eM:F[M]? =some M) (em:F[m]? =some m): ∀{u:Nat},u<12->rootF (F.set M m) 12 u=if rootF F 12 u=M then m else rootF F 12 u:=by
 have h':FOk (F.set M m):=⟨by simp [h.len],fun i hi=>by
  rw [Qz2]; split
  ·omega
  ·exact h.le i (by simpa using hi)⟩
 intro u
 induction u using Nat.strongRecOn with
 | _ u ih=>
  intro hu;have hul:u<F.length:=by rw [h.len]; exact hu
  have hul':u<(F.set M m).length:=by simpa using hul
  have hle:=h.le u hul;rw [A2U h' hul',Qz2];by_cases e:M=u
  ·subst e;rw [if_pos rfl,A5a h hu eM,if_pos rfl];by_cases e2:m=M
   ·rw [if_pos e2]; exact e2.symm
   ·rw [if_neg e2,ih m (by omega) (by omega),A5a h (by omega) em,if_neg e2]
  ·rw [if_neg e,A2U h hul];by_cases e2:F[u]=u
   ·rw [if_pos e2,if_pos e2,if_neg (fun x=>e x.symm)]
   ·rw [if_neg e2,if_neg e2]; exact ih _ (by omega) (by omega)
def rootsN (F:List Nat):Nat->Int
 | 0=>0
 | k+1=>rootsN F k+(if F[k]? =some k then 1 else 0)
def B6R {M m:Nat} (hM:M<F.length) (hne:m≠M) (eM:F[M]? =some M) (k:Nat):rootsN (F.set M m) k=rootsN F k-(if M<k then 1 else 0):=by
 induction k with
 | zero=>simp [rootsN]
 | succ k ih=>
  simp only [rootsN,ih];by_cases e:M=k
  ·subst e;rw [QZ hM,if_neg (show ¬(some m=some M) from fun h=>hne (JX h)),if_pos eM,if_neg (show ¬M<M by omega),if_pos (show M<M+1 by omega)]; omega
  ·rw [QX e];by_cases e2:M<k
   ·rw [if_pos e2,if_pos (show M<k+1 by omega)]; omega
   ·rw [if_neg e2,if_neg (show ¬M<k+1 by omega)]; omega
structure UF (l:List (Int×Int)):Prop where
 ok:FOk (genS l).1
 sound: ∀u,u<12->Conn l u (rootF (genS l).1 12 u)
 all: ∀p,p∈l->rootF (genS l).1 12 p.1.toNat=rootF (genS l).1 12 p.2.toNat
 cnt:(genS l).2+12=l.length+rootsN (genS l).1 12
def B9i (l:List (Int×Int)):Prop:= ∀p,p∈l->(0≤p.1∧p.1<12)∧(0≤p.2∧p.2<12)
def uf (l:List (Int×Int)) (hr:B9i l):UF l:=by
 revert hr;refine A2O (P:=fun l=>B9i l->UF l) ?_ ?_ l
 ·intro _;have h0:FOk (List.range 12):=⟨by simp,fun i hi=>by simp⟩;refine ⟨h0,fun u hu=> ?_,(fun p hp=>absurd hp (by simp)),?_⟩
  ·have e:rootF (genS []).1 12 u=u:=A5a h0 hu (by show (List.range 12)[u]? =some u;rw [Yv hu]);rw [e]; exact .refl
  ·decide
 ·intro l p ih hr;have hl:=ih fun q hq=>hr q (by simp [hq]);have hp:=hr p (by simp);obtain ⟨ok,sound,all,cnt⟩:=hl;have hsn:=A9f l p;have ok':=B04 (s:=genS l) ok hp.1 hp.2;rw [<-hsn] at ok';generalize hF:(genS l).1=F at*;generalize hc:(genS l).2=c at*;have h1:p.1.toNat<12:=by omega
  have h2:p.2.toNat<12:=by omega
  have e1:=A8o ok h1;have e2:=A8o ok h2;have l1:=root_lt ok h1;have l2:=root_lt ok h2;have hgF:(genS (l++[p])).1=F.set (max (rootF F 12 p.1.toNat) (rootF F 12 p.2.toNat)) (min (rootF F 12 p.1.toNat) (rootF F 12 p.2.toNat)):=by rw [hsn]; simp only [A1I,hF]
  have hgc:(genS (l++[p])).2=if rootF F 12 p.1.toNat=rootF F 12 p.2.toNat then c+1 else c:=by rw [hsn]; simp only [A1I,hF,hc]
  have c1:=sound _ h1;have c2:=sound _ h2;have hsub: ∀q,q∈l->q∈l++[p]:=fun q hq=>by simp [hq]
  have hpp:Conn (l++[p]) p.1.toNat p.2.toNat:=Conn.one (.inl (by
   have:((p.1.toNat:Nat):Int)=p.1:=by omega
   have h3:((p.2.toNat:Nat):Int)=p.2:=by omega
   rw [this,h3]; simp))
  have hab:Conn (l++[p]) (rootF F 12 p.1.toNat) (rootF F 12 p.2.toNat):=((c1.mono hsub).symm.trans hpp).trans (c2.mono hsub);generalize ha:rootF F 12 p.1.toNat=a at*;generalize hb:rootF F 12 p.2.toNat=b at*;have eM:F[max a b]? =some (max a b):=by rcases Nat.le_total a b with h | h<;>simp [Nat.max_eq_right,Nat.max_eq_left,h,e1,e2]
  have em:F[min a b]? =some (min a b):=by rcases Nat.le_total a b with h | h<;>simp [Nat.min_eq_right,Qq1,h,e1,e2]
  have hun:=fun {u:Nat} (hu:u<12)=>B6Q ok (M:=max a b) (m:=min a b) (by omega) (by omega) eM em hu;refine ⟨ok',fun u hu=> ?_,fun q hq=> ?_,?_⟩
  ·rw [hgF,hun hu];have hs:=(sound u hu).mono hsub;by_cases e:rootF F 12 u=max a b
   ·rw [if_pos e];refine hs.trans ?_;rw [e];rcases Nat.le_total a b with h | h
    ·rw [Nat.max_eq_right h,Qq1 h]; exact hab.symm
    ·rw [Nat.max_eq_left h,Nat.min_eq_right h]; exact hab
   ·rw [if_neg e]; exact hs
  ·rw [hgF];rcases XY.1 hq with hq | hq
   ·have hq2:=hr q (by simp [hq]);rw [hun (by omega),hun (by omega),all q hq]
   ·obtain rfl:=Zq.1 hq;rw [hun h1,hun h2,ha,hb];by_cases x:a=max a b<;>by_cases y:b=max a b
    ·rw [if_pos x,if_pos y]
    ·rw [if_pos x,if_neg y]; omega
    ·rw [if_neg x,if_pos y]; omega
    ·omega
  ·rw [hgF,hgc,Xv,List.length_singleton];by_cases e:a=b
   ·subst e;rw [if_pos rfl,Nat.max_self,Nat.min_self];have hal:a<F.length:=by rw [ok.len]; exact l1
    have:F.set a a=F:=by
     apply Zx;intro i;by_cases hi:a=i
     ·subst hi; rw [QZ hal,e1]
     ·rw [QX hi]
    rw [this]; omega
   ·rw [if_neg e,B6R (by rw [ok.len]; omega) (by omega) eM,if_pos (by omega)]; omega
def B9j {l:List (Int×Int)} (hr:B9i l) {u w:Nat} (hu:u<12) (hw:w<12):Conn l u w↔rootF (genS l).1 12 u=rootF (genS l).1 12 w:=by
 have h:=uf l hr;constructor
 ·intro hc;have key: ∀w,Conn l u w->w<12->rootF (genS l).1 12 u=rootF (genS l).1 12 w:=by
   intro w hc
   induction hc with
   | refl=>intro _; rfl
   | step _ hh ih=>
    intro hw;rename_i b c _;rcases hh with hh | hh
    ·have:=hr _ hh;rw [ih (by omega)]; simpa using h.all _ hh
    ·have:=hr _ hh;rw [ih (by omega)]; simpa using (h.all _ hh).symm
  exact key w hc hw
 ·intro e;have h1:=h.sound u hu;have h2:=h.sound w hw;rw [e] at h1;exact h1.trans h2.symm
def A3W {l:List (Int×Int)} (hr:B9i l) {v:Nat} (hv:v<12):(genS l).1[v]? =some v↔ ¬ ∃u,u<v∧Conn l u v:=by
 have h:=uf l hr;rw [<-B11 h.ok hv];constructor
 ·rintro e ⟨u,hu,hc⟩;have:=(B9j hr (by omega) hv).1 hc;have:=A22 h.ok (n:=12) (v:=u) (by omega);omega
 ·intro hn;have hle:=A22 h.ok (n:=12) hv;by_cases e:rootF (genS l).1 12 v=v
  ·exact e
  ·exact absurd ⟨_,by omega,(h.sound v hv).symm⟩ hn
def GT (R:List Bool) (u:Nat):Prop:=R.getD u false=true
def C4x {R:List Bool} (h:GT R u):u<R.length:=by
 unfold GT at h;rw [Qz] at h;by_cases hu:u<R.length
 ·exact hu
 ·rw [Xx (by omega)] at h; simp at h
def C35 {R:List Bool} {b u:Nat} (hb:b<R.length):GT (R.set b true) u↔u=b∨GT R u:=by
 unfold GT;rw [Qz,Qz];by_cases e:b=u
 ·subst e; rw [QZ hb]; simp
 ·rw [QX e];constructor
  ·intro h; exact .inr h
  ·rintro (h | h)
   ·exact absurd h.symm e
   ·exact h
variable {es:List E}
def B4q {a b u:Nat} {R:List Bool} (hb:b<R.length):GT (A3V es a R b) u↔GT R u∨(u=b∧GT R a∧B7P es a b=true):=by
 unfold A3V;by_cases h:(R.getD a false&&B7P es a b)=true
 ·rw [if_pos h,C35 hb];simp only [XJ] at h;constructor
  ·rintro (rfl | h2)
   ·exact .inr ⟨rfl,h.1,h.2⟩
   ·exact .inl h2
  ·rintro (h2 | ⟨rfl,_⟩)
   ·exact .inr h2
   ·exact .inl rfl
 ·rw [if_neg h];simp only [XJ,not_and] at h;constructor
  ·exact .inl
  ·rintro (h2 | ⟨_,h3,h4⟩)
   ·exact h2
   ·exact absurd h4 (h h3)
def A4o {f:List Bool->Nat->List Bool} (P:Nat->List Bool->Prop) {z:List Bool} (h0:P 0 z) (k:Nat) (h1: ∀i R,i<k->P i R->P (i+1) (f R i)):P k ((List.range k).foldl f z):=by
 induction k with
 | zero=>exact h0
 | succ k ih=>rw [A1b]; exact h1 _ _ (by omega) (ih fun i R hi=>h1 i R (by omega))
structure Rd (es:List E) (n:Nat) (R S:List Bool):Prop where
 len:S.length=n
 up: ∀u,GT R u->GT S u
def C2l {es:List E} {n a:Nat} {R:List Bool} (hl:R.length=n):Rd es n R (rRow es n a R)∧(GT R a-> ∀b,b<n->B7P es a b=true->GT (rRow es n a R) b):=by
 have:=A4o (f:=A3V es a) (P:=fun k S=>Rd es n R S∧(GT R a-> ∀b,b<k->B7P es a b=true->GT S b)) (z:=R) ⟨⟨hl,fun u h=>h⟩,fun _ b hb=>by omega⟩ n (by
  rintro i S hi ⟨⟨h1,h2⟩,h3⟩;refine ⟨⟨by rw [A69,h1],fun u hu=>(B4q (by omega)).2 (.inl (h2 u hu))⟩,fun ha b hb hab=> ?_⟩;rw [B4q (by omega)];by_cases e:b=i
  ·subst e; exact .inr ⟨rfl,h2 a ha,hab⟩
  ·exact .inl (h3 ha b (by omega) hab))
 exact this
def B09 {es:List E} {n:Nat} {R:List Bool} (hl:R.length=n):Rd es n R (A7J es n R)∧(∀a,a<n->GT R a-> ∀b,b<n->B7P es a b=true->GT (A7J es n R) b):=by
 have:=A4o (f:=fun R a=>rRow es n a R) (P:=fun k S=>Rd es n R S∧(∀a,a<k->GT R a-> ∀b,b<n->B7P es a b=true->GT S b)) (z:=R) ⟨⟨hl,fun u h=>h⟩,fun a ha=>by omega⟩ n (by
  rintro i S hi ⟨⟨h1,h2⟩,h3⟩;obtain ⟨⟨q1,q2⟩,q3⟩:=C2l (es:=es) (a:=i) h1;refine ⟨⟨q1,fun u hu=>q2 u (h2 u hu)⟩,fun a ha hR b hb hab=> ?_⟩;by_cases e:a=i
  ·subst e; exact q3 (h2 a hR) b hb hab
  ·exact q2 b (h3 a (by omega) hR b hb hab))
 exact this
def A9o (es:List E) (n:Nat) (R:List Bool):Prop:= ∀a,a<n->GT R a-> ∀b,b<n->B7P es a b=true->GT R b
def B9k {n a b:Nat} {R:List Bool} (hl:R.length=n) (hb:b<n) (ha:a<n) (h:A9o es n R):A3V es a R b=R:=by
 unfold A3V;by_cases hx:(R.getD a false&&B7P es a b)=true
 ·rw [if_pos hx];simp only [XJ] at hx;have:=h a ha hx.1 b hb hx.2;apply Zx;intro i;by_cases e:b=i
  ·subst e;rw [QZ (by omega),Qq (by omega)];unfold GT at this;rw [Qz,Qq (by omega)] at this;simpa using this.symm
  ·rw [QX e]
 ·rw [if_neg hx]
def B6S {n:Nat} {R:List Bool} (hl:R.length=n) (h:A9o es n R):A7J es n R=R:=by
 have:=A4o (f:=fun R a=>rRow es n a R) (P:=fun k S=>S=R) (z:=R) rfl n (by
  rintro i S hi rfl
  have:=A4o (f:=A3V es i) (P:=fun k T=>T=S) (z:=S) rfl n (by
   rintro j T hj rfl
   exact B9k hl hj hi h)
  exact this)
 exact this
def B4r:List Bool->Nat
 | []=>0
 | b::R=>(if b then 1 else 0)+B4r R
def C4y (R:List Bool):B4r R≤R.length:=by
 induction R with
 | nil=>exact QQ _
 | cons b R ih=>simp only [B4r,List.length_cons]; split<;>omega
def B2O: ∀{R S:List Bool},R.length=S.length->(∀u,GT R u->GT S u)->B4r R≤B4r S∧(B4r R=B4r S->R=S)
 | [],[],_,_=>⟨QQ _,fun _=>rfl⟩
 | [],_::_,h,_=>by simp at h
 | _::_,[],h,_=>by simp at h
 | x::R,y::S,h,hu=>by
  have h0:=hu 0;have ih:=B2O (R:=R) (S:=S) (by simpa using h) (fun u hx=>by have:=hu (u+1); unfold GT at*; simpa using this (by simpa using hx));unfold GT at h0;simp only [B4r];cases x<;>cases y
  ·simp; exact ⟨ih.1,ih.2⟩
  ·simp; omega
  ·simp at h0
  ·simp;refine ⟨ih.1,fun h=>ih.2 (by omega)⟩
def B53 {g:G} (hc:checkG g=0) {a b:Nat}:B7P g.es a b=true↔(((a:Int),(b:Int))∈endsL g.es∨((b:Int),(a:Int))∈endsL g.es):=by
 obtain ⟨h1,h2,h3⟩:=A0j.1 hc;unfold B7P;rw [decide_eq_true_eq,C2h (fun e he=>by have:=h2 e he; unfold okE at this; omega)];have hmem: ∀e,e∈g.es->(e.a,e.b)∈endsL g.es:=fun e he=>by
  have:=h2 e he;unfold okE at this;exact Jq.2 ⟨e,he,YY.2 ⟨by omega,rfl⟩⟩
 constructor
 ·rintro ⟨e,he,e1,e2⟩;have:=hmem e he;rw [e1,e2] at this;rcases Nat.le_total a b with h | h
  ·left; rwa [show min (a:Int) b=a by omega,show max (a:Int) b=b by omega] at this
  ·right; rwa [show min (a:Int) b=b by omega,show max (a:Int) b=a by omega] at this
 ·intro h;have key: ∀x y:Int,(x,y)∈endsL g.es-> ∃e,e∈g.es∧e.a=x∧e.b=y∧x≤y:=fun x y hxy=>by
   obtain ⟨e,he,hx⟩:=A3T hxy;have:=h2 e he;unfold okE at this;cases hx;exact ⟨e,he,rfl,rfl,by omega⟩
  rcases h with h | h
  ·obtain ⟨e,he,h4,h5,h6⟩:=key _ _ h;exact ⟨e,he,by omega,by omega⟩
  ·obtain ⟨e,he,h4,h5,h6⟩:=key _ _ h;exact ⟨e,he,by omega,by omega⟩
def A2i {g:G} {n:Nat} (hc:checkG g=0) (hn:g.n=n): ∀p,p∈endsL g.es->(0≤p.1∧p.1<n)∧(0≤p.2∧p.2<n):=fun p hp=>by
 have:=ends_range hc hp; omega
def B6T {g:G} {n v:Nat} (hc:checkG g=0) (hn:g.n=n) (hv:v<n) (hu:u<n):GT (A9m g.es n v) u↔Conn (endsL g.es) v u:=by
 have hlen: ∀k,(A11 g.es n v k).length=n:=A50 g.es n v;have hsucc: ∀k,A11 g.es n v (k+1)=A7J g.es n (A11 g.es n v k):=fun k=>A1b _ _ _;have hz: ∀u,GT (A11 g.es n v 0) u↔u=v:=fun u=>by
  show GT ((List.replicate n false).set v true) u↔u=v;rw [C35 (by simpa using hv)];constructor
  ·rintro (h | h)
   ·exact h
   ·exfalso;have hl:=C4x h;unfold GT at h;rw [Qz,Qq hl,List.getElem_replicate] at h;simp at h
  ·exact .inl
 constructor
 ·-- sound
  have hstep: ∀(R:List Bool) (a b:Nat),R.length=n->b<n->(∀u,GT R u->Conn (endsL g.es) v u)-> ∀u,GT (A3V g.es a R b) u->Conn (endsL g.es) v u:=fun R a b hl hb h u hu=>by
   rw [B4q (by omega)] at hu;rcases hu with hu | ⟨rfl,ha,hab⟩
   ·exact h u hu
   ·exact .step (h a ha) ((B53 hc).1 hab)
  have hall: ∀k,∀u,GT (A11 g.es n v k) u->Conn (endsL g.es) v u:=fun k=>by
   induction k with
   | zero=>intro u hu; rw [(hz u).1 hu]; exact .refl
   | succ k ih=>
    rw [hsucc]
    have:=A4o (f:=fun R a=>rRow g.es n a R) (P:=fun _ S=>S.length=n∧ ∀u,GT S u->Conn (endsL g.es) v u) (z:=A11 g.es n v k) ⟨hlen k,ih⟩ n (by
     rintro i S hi ⟨h1,h2⟩
     have:=A4o (f:=A3V g.es i) (P:=fun _ S=>S.length=n∧ ∀u,GT S u->Conn (endsL g.es) v u) (z:=S) ⟨h1,h2⟩ n (by
      rintro j T hj ⟨h3,h4⟩
      exact ⟨by rw [A69,h3],hstep T i j h3 hj h4⟩)
     exact this)
    exact this.2
  exact hall n u
 ·-- complete
  have hgrow: ∀k,A9o g.es n (A11 g.es n v k)∨k+1≤B4r (A11 g.es n v k):=fun k=>by
   induction k with
   | zero=>
    right;have h1:GT (A11 g.es n v 0) v:=(hz v).2 rfl;by_cases h0:B4r (A11 g.es n v 0)=0
    ·exfalso;have key: ∀R:List Bool,B4r R=0-> ∀u,¬GT R u:=by
      intro R
      induction R with
      | nil=>intro _ u h; exact absurd (C4x h) (by simp)
      | cons b R ih=>
       intro h u hu;simp only [B4r] at h;have hb:b=false:=by cases b<;>simp at h ⊢
       subst hb;cases u with
       | zero=>unfold GT at hu; simp at hu
       | succ u=>exact ih (by simpa using h) u (by unfold GT at*; simpa using hu)
     exact key _ h0 _ h1
    ·omega
   | succ k ih=>
    obtain ⟨⟨q1,q2⟩,q3⟩:=B09 (es:=g.es) (hlen k);rw [hsucc];by_cases hcl:A9o g.es n (A11 g.es n v k)
    ·left; rw [B6S (hlen k) hcl]; exact hcl
    ·right;have hk:k+1≤B4r (A11 g.es n v k):=ih.resolve_left hcl;obtain ⟨c1,c2⟩:=B2O (by rw [hlen k,q1]) q2;by_cases e:B4r (A11 g.es n v k)=B4r (A7J g.es n (A11 g.es n v k))
     ·exfalso;refine hcl fun a ha hR b hb hab=> ?_;have:=q3 a ha hR b hb hab;rwa [<-c2 e] at this
     ·omega
  have hcl:A9o g.es n (A11 g.es n v n):=by
   rcases hgrow n with h | h
   ·exact h
   ·have:=C4y (A11 g.es n v n); rw [hlen n] at this; omega
  have hvT: ∀k,GT (A11 g.es n v k) v:=fun k=>by
   induction k with
   | zero=>exact (hz v).2 rfl
   | succ k ih=>rw [hsucc]; exact (B09 (es:=g.es) (hlen k)).1.up v ih
  intro hcn;have key: ∀w,Conn (endsL g.es) v w->GT (A11 g.es n v n) w:=by
   intro w hw
   induction hw with
   | refl=>exact hvT n
   | step _ hh ih=>
    rename_i b c _;have hb:b<n∧c<n:=by
     rcases hh with hh | hh<;>(have:=A2i hc hn _ hh; simp only at this; omega)
    exact hcl b hb.1 ih c hb.2 ((B53 hc).2 hh)
  exact key u hcn
def C4z {R S:List Bool} {n:Nat} (hS:S.length=n) (u:Nat) (hu:u<n):GT (orK R S n) u↔GT S u∨GT R u:=by
 have:=A4o (f:=A9n R) (P:=fun k T=>T.length=n∧ ∀u,u<n->(GT T u↔GT S u∨(u<k∧GT R u))) (z:=S) ⟨hS,fun u _=>by simp⟩ n (by
  rintro i T hi ⟨h1,h2⟩;refine ⟨by rw [B08,h1],fun u hu=> ?_⟩;unfold A9n;by_cases e:i=u
  ·subst e;unfold GT at h2 ⊢;have h3:=h2 i hu;rw [Qz,QZ (by omega),Option.getD_some,Wx,h3];constructor
   ·rintro ((h | h) | h)
    ·exact .inl h
    ·omega
    ·exact .inr ⟨by omega,h⟩
   ·rintro (h | ⟨_,h⟩)
    ·exact .inl (.inl h)
    ·exact .inr h
  ·have h3:=h2 u hu;unfold GT at h3 ⊢;rw [Qz,QX e,<-Qz,h3];constructor
   ·rintro (h | ⟨h,h'⟩)
    ·exact .inl h
    ·exact .inr ⟨by omega,h'⟩
   ·rintro (h | ⟨h,h'⟩)
    ·exact .inl h
    ·exact .inr ⟨by omega,h'⟩)
 have h3:=this.2 u hu;unfold orK;rw [h3];constructor
 ·rintro (h | ⟨_,h⟩)
  ·exact .inl h
  ·exact .inr h
 ·rintro (h | h)
  ·exact .inl h
  ·exact .inr ⟨hu,h⟩
def B9l {g:G} {n:Nat} (hc:checkG g=0) (hn:g.n=n): ∀v,v≤n-> ∀u,u<n->(GT (A6A g.es n v) u↔ ∃w,w<v∧Conn (endsL g.es) w u):=by
 intro v
 induction v with
 | zero=>
  intro _ u hu;constructor
  ·intro h;exfalso;have hl:=C4x h;unfold GT at h;rw [Qz,Qq hl] at h;simp [A6A] at h
  ·rintro ⟨w,hw,_⟩; omega
 | succ v ih=>
  intro hv u hu;have ih:=ih (by omega);have hS1:A6A g.es n (v+1)=seenStep g.es n (A6A g.es n v) v:=A1b _ _ _;rw [hS1];unfold seenStep;by_cases h:(A6A g.es n v).getD v false=true
  ·rw [if_pos h,ih u hu];obtain ⟨w,hw,hcw⟩:=(ih v (by omega)).1 h;constructor
   ·rintro ⟨x,hx,h2⟩; exact ⟨x,by omega,h2⟩
   ·rintro ⟨x,hx,h2⟩;by_cases e:x=v
    ·subst e; exact ⟨w,hw,hcw.trans h2⟩
    ·exact ⟨x,by omega,h2⟩
  ·rw [if_neg h,C4z (B2N g.es n v) u hu,ih u hu,B6T hc hn (by omega) hu];constructor
   ·rintro (⟨x,hx,h2⟩ | h2)
    ·exact ⟨x,by omega,h2⟩
    ·exact ⟨v,by omega,h2⟩
   ·rintro ⟨x,hx,h2⟩;by_cases e:x=v
    ·subst e; exact .inr h2
    ·exact .inl ⟨x,by omega,h2⟩
def A5Z {g:G} {n:Nat} (hc:checkG g=0) (hn:g.n=n): ∀v,v≤n->(A2p g.es n v:Int)=rootsN (genS (endsL g.es)).1 v:=by
 have hn12:=(A0j.1 hc).1;have hr:B9i (endsL g.es):=fun p hp=>by have:=A2i hc hn p hp; omega
 intro v
 induction v with
 | zero=>intro _; rfl
 | succ v ih=>
  intro hv;have ih:=ih (by omega);have hsp:=B9l hc hn v (by omega) v (by omega);have hrt:=A3W hr (v:=v) (by omega);simp only [A2p,rootsN];unfold GT at hsp;by_cases h:(A6A g.es n v).getD v false=true
  ·rw [if_pos h,if_neg (fun e=>hrt.1 e (hsp.1 h))]; omega
  ·rw [if_neg h,if_pos (hrt.2 fun e=>h (hsp.2 e))]; omega
def C2m {g:G} {n:Nat} (hc:checkG g=0) (hn:g.n=n):C1l (endsL g.es)=(endsL g.es).length-n+A2p g.es n n:=by
 have hn12:=(A0j.1 hc).1;have hr:B9i (endsL g.es):=fun p hp=>by have:=A2i hc hn p hp; omega
 have h:=(uf _ hr).cnt;have hp:=A5Z hc hn n (QQ _);have hhi: ∀k,n+k≤12->rootsN (genS (endsL g.es)).1 (n+k)=rootsN (genS (endsL g.es)).1 n+k:=fun k=>by
  induction k with
  | zero=>intro _; simp
  | succ k ih=>
   intro hk;have e:(genS (endsL g.es)).1[n+k]? =some (n+k):=(A3W hr (by omega)).2 fun ⟨u,hu,hcu⟩=>by
    have:=hcu.symm.bound (A2i hc hn) (by omega); omega
   show rootsN _ (n+k+1)=_;simp only [rootsN,ih (by omega),if_pos e]; omega
 have h12:=hhi (12-n) (by omega);rw [show n+(12-n)=12 by omega] at h12;unfold C1l;omega
def A0M (F:List Nat) (v:Nat):List Nat:=(List.range v).filter fun u=>decide (rootF F 12 u=u)
def A7X (F:List Nat) (v r:Nat):List Int:=((List.range v).filter fun u=>decide (rootF F 12 u=r)).map fun u:Nat=>(u:Int)
def A1n (F:List Nat) (v:Nat):List (List Int):=(A0M F v).map (A7X F v)
def A5b (F:List Nat) (v:Nat):(A0M F v).Nodup:=List.Nodup.sublist List.filter_sublist Qq8
def A51 {v u:Nat}:u∈A0M F v↔u<v∧rootF F 12 u=u:=by simp [A0M]
def A4p (F:List Nat) (v:Nat):A0M F (v+1)=if rootF F 12 v=v then A0M F v++[v] else A0M F v:=by
 unfold A0M;rw [WX,JV];by_cases h:rootF F 12 v=v<;>simp [h]
def B6U (F:List Nat) (v:Nat):(A0M F v).length≤v:=by
 unfold A0M;exact Yj (Jw _ _) (by simp)
def A52 (F:List Nat) (v r:Nat):A7X F (v+1) r=if rootF F 12 v=r then A7X F v r++[(v:Int)] else A7X F v r:=by
 unfold A7X;rw [WX,JV];by_cases h:rootF F 12 v=r<;>simp [h]
def B9m (hF:FOk F) {v:Nat} (hv:v<12) (h:rootF F 12 v=v):A1n F (v+1)=A1n F v++[[(v:Int)]]:=by
 unfold A1n;rw [A4p,if_pos h,WY];congr 1
 ·refine Jy fun r hr=> ?_;have:=(A51.1 hr).1;rw [A52,if_neg (by omega)]
 ·simp only [XQ,ZX];rw [A52,if_pos h];have:A7X F v v=[]:=by
   unfold A7X;rw [List.map_eq_nil_iff,List.filter_eq_nil_iff];intro u hu;have hu':=Xy.1 hu;have:=A22 hF (n:=12) (v:=u) (by omega);simp only [decide_eq_true_eq]; omega
  rw [this]; rfl
def B9n {v k:Nat} (h:rootF F 12 v≠v) {r:Nat} (hk:(A0M F v)[k]? =some r) (hr:rootF F 12 v=r):(A0M F (v+1))=A0M F v∧(A1n F v)[k]? =some (A7X F v r)∧A1n F (v+1)=(A1n F v).set k (A7X F v r++[(v:Int)]):=by
 have e1:A0M F (v+1)=A0M F v:=by rw [A4p,if_neg h]
 refine ⟨e1,by simp [A1n,hk],?_⟩;unfold A1n;rw [e1];apply Zx;intro i;have hkl:=(Qx.1 hk).1;by_cases e:k=i
 ·subst e;rw [QZ (by simpa using hkl),QW,hk];simp only [Option.map_some];rw [A52,if_pos hr]
 ·rw [QX e,QW,QW];cases hi:(A0M F v)[i]? with
  | none=>rfl
  | some s=>
   simp only [Option.map_some];rw [A52,if_neg];intro hs;obtain ⟨hil,e2⟩:=Qx.1 hi;obtain ⟨_,e3⟩:=Qx.1 hk;have hnd:=A5b F v;rw [List.Nodup,ZV] at hnd;have e4:(A0M F v)[k]=(A0M F v)[i]:=by rw [e2,e3,<-hr,hs]
   rcases Nat.lt_or_gt_of_ne e with h | h
   ·exact hnd k i hkl hil h e4
   ·exact hnd i k hil hkl h e4.symm
def mR:Nat->List Nat->List (MKey×MV)
 | _,[]=>[]
 | b,r::l=>(.int r,.c (.int .i64 (b:Int)))::mR (b+1) l
def B9o: ∀(b:Nat) (l:List Nat) (r:Nat),r∉l->mIdx (mR b l) (.int r)=none
 | b,[],r,_=>rfl
 | b,x::l,r,h=>by
  have h1: ¬x=r:=fun e=>h (by simp [e]);have h2:=B9o (b+1) l r (fun hm=>h (by simp [hm]));unfold mIdx at h2 ⊢;simp only [mR,JJ,h2,Option.map_none];rw [if_neg];intro e;have:(MKey.int (x:Int))= .int r:=by simpa using e
  injection this with e;exact h1 (by omega)
def C6l: ∀(b:Nat) (l:List Nat) (k r:Nat),l.Nodup->l[k]? =some r->mIdx (mR b l) (.int r)=some k∧(mR b l)[k]? =some (.int r,.c (.int .i64 ((b+k:Nat):Int)))
 | b,[],k,r,_,h=>by simp at h
 | b,x::l,0,r,_,h=>by
  simp at h; subst h;simp [mIdx,mR,JJ]
 | b,x::l,k+1,r,hn,h=>by
  rw [Qq5] at hn;have h':l[k]? =some r:=by simpa using h
  obtain ⟨q1,q2⟩:=C6l (b+1) l k r hn.2 h';have h1: ¬x=r:=fun e=>hn.1 (by rw [e]; exact Qy h');constructor
  ·unfold mIdx at q1 ⊢;simp only [mR,JJ,q1,Option.map_some];rw [if_neg];intro e;have:(MKey.int (x:Int))= .int r:=by simpa using e
   injection this with e;exact h1 (by omega)
  ·simp only [mR,List.getElem?_cons_succ,q2];rw [show b+1+k=b+(k+1) by omega]
def C36 {l:List Nat} {k r:Nat} (hn:l.Nodup) (h:l[k]? =some r) (z:MV):A7b (mR 0 l) (.int r) z= .c (.int .i64 (k:Int)):=by
 obtain ⟨q1,q2⟩:=C6l 0 l k r hn h;unfold A7b;simp [q1,q2]
def B9p: ∀(b:Nat) (l:List Nat) (r:Nat),mR b (l++[r])=mR b l++[(.int r,.c (.int .i64 ((b+l.length:Nat):Int)))]
 | b,[],r=>by simp [mR]
 | b,x::l,r=>by
  have:=B9p (b+1) l r;simp only [List.cons_append,mR,this,List.length_cons];rw [show b+1+l.length=b+(l.length+1) by omega]
def C6m {l:List Nat} {r:Nat} (h:r∉l):B3F (mR 0 l) (.int r) (.c (.int .i64 (l.length:Int)))=mR 0 (l++[r]):=by
 unfold B3F;rw [B9o 0 l r h,B9p];simp
def A6B: ∀{b:Nat} {l:List Nat},∀e,e∈mR b l->KShape.ok .int e.1=true
 | b,[],e,h=>by simp [mR] at h
 | b,x::l,e,h=>by
  rcases Qw.1 h with rfl | h
  ·rfl
  ·exact A6B e h
def A1c {m:Nat}:Go.Sp.cellsIn m (fC F):=A0r fun _=>Qv4
def tF (F:List Nat):TVal:= .agg (fT F)
def B6V (F:List Nat):(fT F).map A02=fC F:=by simp [fT,fC,A02]
def A3B (Z F:List Nat) (h:Z.length=F.length):setMany (fC Z) 0 (fC F)=fC F:=by
 apply Zx;intro i;rw [A2q _ _ _ _ (by simp [A1d,h])];by_cases hi:i<F.length
 ·rw [if_pos ⟨Xw _,by rw [A1d]; omega⟩,Nat.sub_zero]
 ·rw [if_neg (by rw [A1d]; omega),Xx (by rw [A1d]; omega),Xx (by rw [A1d]; omega)]
def A4q: ∀F:List Nat,A4h (fC F)=true
 | []=>rfl
 | _::F=>A4q F
def A6C (H:List Blk): ∀F:List Nat,(fC F).mapM (A0d H)=some (fT F)
 | []=>rfl
 | x::F=>by
  have ih:=A6C H F;simp only [fC,fT,XQ,JZ] at ih ⊢;rw [ih]; rfl
def B9q:ACall Tryz.prog 211 [] (tF (List.range 12)):=by
 refine ACall.of_body Tryz.func211 rfl (by kernel_rfl) ?_;simp only [entry,Tryz.ntmps211];refine zU ?_;refine zR Qv6 Qv6 Qv6 ?_;refine AWp.loopS (α:=Nat) 11 (fun i=>[(0,.c (.ptr 0 0)),(1,.c (.ptr 1 0)),(3,.c (.int .i64 (i:Int)))]) (fun i=>[.box (fC (List.replicate 12 0)),.box (fC (A7r i))]) (fun i=>i≤12) (fun i=>12-i) (0) (hk:=Weak.headL 2 11 [0,1,3] (zV @A1c)) (h0:=?_) (round:=fun i hI=>?_)
 ·exact Xw _
 ·by_cases hlt:i<12
  ·have hset:=A9h hlt;have hlen:=A9i hI;generalize A7r i=F at*;refine zR (zc @A1d (zc @hlen (zc @A9g (zc @A5W (zc @hset Qv6))))) Qv6 Qv6 ?_;refine ⟨i+1,Weak.headN 2 11 [0,1,3] (zV @A1c),?_,?_⟩
   ·exact hlt
   ·omega
  ·have ei:i=12:=by omega
   subst ei;rw [B10];have hl:(List.range 12).length=12:=Vk;generalize List.range 12=F at*;have ht:(fC F).take 12=fC F:=ZZ (by rw [A1d,hl]; exact QQ _);have hs:=A3B (List.replicate 12 0) F (by simp [hl]);have hlr:(List.replicate 12 0:List Nat).length=12:=by simp
   generalize List.replicate 12 0=Z at*;refine zR (zc @A1d (zc @hl (zc @hlr (zc @ht (zc @hs (zc @A4q Qv6)))))) Qv6 Qv6 ?_;have hm:=A6C [Blk.box (fC F),Blk.box (fC F)] F;simp [A00,A0z,Blk.cells,ty,Tryz.results211,A0v,A0w,toT,A0d,A0b,A0c,A0a,hm,hl,ht,A1d,tF]
def C2n (F:List Nat) (h:FOk F) (v:Nat) (hv:v<12):ACall Tryz.prog 213 [.t (.rptr (fT F)),A0n v] (A0n (rootF F 12 v)):=by
 have hF:=h.len;refine ACall.of_body Tryz.func213 rfl (by kernel_rfl) ?_;simp only [entry,Tryz.ntmps213,A0n];refine zU ?_;refine zR Qv6 Qv6 Qv6 ?_;refine AWp.loopS (α:=Nat) 18 (fun u=>[(0,.c (.rptr (fT F))),(1,.c (.int .i64 (u:Int)))]) (fun u=>[]) (fun u=>u<12∧rootF F 12 v=rootF F 12 u) (fun u=>u) (v) (hk:=Weak.headL 0 18 [0,1] (zV @A1c)) (h0:=?_) (round:=fun u hI=>?_)
 ·exact ⟨hv,rfl⟩
 ·obtain ⟨hu,hx⟩:=hI;have hul:u<F.length:=by omega
  have e1:=B4k hul;have e2:=A2U h hul;have e3:=h.le u hul;refine zM Qv6 (zc @e1 Qv6) Qv6 Qv6 Qv6 (zc (ed fun hp hpc=>?_) (ed fun hp hpc=>?_))
  ·rw [if_neg (by omega)] at e2;refine ⟨F[u],Weak.headN 0 18 [0,1] (zV @A1c),?_,?_⟩
   ·exact ⟨by omega,by rw [hx,e2]⟩
   ·omega
  ·rw [if_pos (by omega)] at e2;have e:rootF F 12 v=u:=by rw [hx,e2]
   simp [A00,A0z,Blk.cells,ty,Tryz.results213,A0v,A0w,toT,A0d,A0b,A0c,A0a,A0n,e]
def A7t (F:List Nat) (h:FOk F) (v:Nat) (hv:v<12) {id:Nat} (hb:H[id]? =some (.box (fC F))):
  ACallH Tryz.prog 213 H [.c (.ptr id 0),.c (.int .i64 (v:Int))] H (.c (.int .i64 (rootF F 12 v:Nat))):=
 ACall.hb (C2n F h v hv) (by simp [toT,A0d,A0b,hb,Blk.cells,B1z,A0a,A0n]) rfl
def C2o (F:List Nat) (h:FOk F) (a b:Nat) (ha:a<12) (hb:b<12) {id:Nat} (hid:H[id]? =some (.box (fC F))):
  ACallH Tryz.prog 212 H [.c (.ptr id 0),.c (.int .i64 (a:Int)),.c (.int .i64 (b:Int))] (H.set id (.box (fC (F.set (max (rootF F 12 a) (rootF F 12 b)) (min (rootF F 12 a) (rootF F 12 b)))))) (.tup []):=by
 have rx:=A7t F h a ha hid;have ry:=A7t F h b hb hid;have la:=A22 h (n:=12) ha;have lb:=A22 h (n:=12) hb;generalize rootF F 12 a=x at*;generalize rootF F 12 b=y at*;have hmax:max (x:Int) (y:Int)=((max x y:Nat):Int):=by omega
 have hmin:min (x:Int) (y:Int)=((min x y:Nat):Int):=by omega
 refine ACallH.of_body Tryz.func212 rfl (by kernel_rfl) ?_;simp only [entry,Tryz.ntmps212,List.length_cons,List.length_nil,Nat.reduceAdd,Nat.reduceSub,List.replicate_succ,List.replicate_zero,List.cons_append,List.nil_append];refine zJ Qv6 (zc @A1d (zc @A9g (zc @A5W (zc @hmax (zc @hmin (zc @h.len (zc @hid Qv6))))))) Qv6 (zc rx (zc ry Qv6)) Qv6 ?_;simp [A4O,A2c,A0v,A2b,Tryz.results212]
def zI (T:List Nat):List Int:=T.map fun x:Nat=>(x:Int)
def A3C (T:List Nat):(zI T).length=T.length:=by simp [zI]
def LI (L:List (Nat×Nat)):List (Int×Int):=L.map fun p=>((p.1:Int),(p.2:Int))
structure VX (s:BS) (j cap:Nat) (X:List Blk):Prop where
 vec:X[j]? =some (.box (fC s.opn++List.replicate (cap-s.opn.length) .any))
 cap:s.opn.length≤cap
 inn: ∀b,b∈X-> ∀m,blkIn m b
def B4s (ts:List Tree):chunks 1 ts.length ts=ts.map fun t=>[t]:=by
 have h:=Go.Sp.chunks_flatten (k:=1) (rows:=ts.map fun t=>[t]) (fun r hr=>by obtain ⟨t,_,rfl⟩:=QJ.1 hr; rfl);have hf: ∀l:List Tree,(l.map fun t=>[t]).flatten=l:=fun l=>by
  induction l with
  | nil=>rfl
  | cons x l ih=>simp only [XQ,List.flatten_cons,ih]; rfl
 rw [XW,hf] at h;exact h
end Go.Proofs.YtdbdfkohpjefjaaGreat
