/- A part of the proof. -/
import Derived.Test.YtdbdfkohpjefjaaGreatPart23
import Derived.Test.YtdbdfkohpjefjaaGreatPart22
set_option linter.all false
set_option maxHeartbeats 4000000
set_option maxRecDepth 100000
namespace Go.Proofs.YtdbdfkohpjefjaaGreat
open Go.Sp
def A8g (p:Nat->Bool):Nat->Nat
 | 0=>0
 | n+1=>(if p n=true then 2^n else 0)+A8g p n
def A82 (p:Nat->Bool): ∀n,A8g p n<2^n
 | 0=>by simp [A8g]
 | n+1=>by
  have:=A82 p n;unfold A8g;rw [Nat.pow_succ];split<;>omega
def A4e (w v:Nat):B3x w v=1↔w.testBit v=true:=by
 unfold B3x;rw [Nat.testBit_eq_decide_div_mod_eq,decide_eq_true_eq]
def A2X (p:Nat->Bool): ∀n v,v<n->(A8g p n).testBit v=p v
 | 0,v,h=>by omega
 | n+1,v,h=>by
  have hl:=A82 p n;unfold A8g;by_cases e:v=n
  ·subst e;cases hp:p v with
   | true=>rw [if_pos rfl,Nat.testBit_two_pow_add_eq,Qz3 hl]; rfl
   | false=>rw [if_neg (by simp),XX,Qz3 hl]
  ·have ih:=A2X p n v (by omega);split
   ·rw [Nat.testBit_two_pow_add_gt (by omega),ih]
   ·rw [XX,ih]
structure MinC (g:G) (n:Nat) (w:Nat):Prop where
 c:checkG g=0
 n':g.n=n
 n2:2≤n
 odd:w%2=1
 lt:w<2^n-1
 eq:connW n g.es (2^n-1)=(cutW w g.es,setN n w)
 mn: ∀w',w'%2=1->w'<2^n-1->cutW w g.es≤cutW w' g.es
section
variable {g:G} {n w:Nat}
end
noncomputable def A3L (g:G):Nat->List (List Int)
 | 0=>[]
 | w+1=>if treeB g.n.toNat (endsL g.es) (zI (setN (endsL g.es).length w))=true then A3L g w++[zI (setN (endsL g.es).length w)] else A3L g w
def A83 (g:G): ∀w,(A3L g w).length≤w
 | 0=>by simp [A3L]
 | w+1=>by have:=A83 g w; unfold A3L; split<;>simp<;>omega
def A6Q {g:G} {x:List Int}: ∀{m:Nat},x∈A3L g m↔ ∃w,w<m∧x=zI (setN (endsL g.es).length w)∧treeB g.n.toNat (endsL g.es) x=true
 | 0=>by simp [A3L]
 | m+1=>by
  have ih:= @A6Q g x m;unfold A3L;constructor
  ·intro h;split at h
   ·rename_i ht;rcases XZ.1 h with h | h
    ·obtain ⟨w,hw,q⟩:=ih.1 h; exact ⟨w,by omega,q⟩
    ·rw [XQ] at h; exact ⟨m,by omega,h,by rw [h]; exact ht⟩
   ·obtain ⟨w,hw,q⟩:=ih.1 h; exact ⟨w,by omega,q⟩
  ·rintro ⟨w,hw,rfl,q⟩;by_cases e:w=m
   ·subst e; rw [if_pos q]; simp
   ·have:=ih.2 ⟨w,by omega,rfl,q⟩;split
    ·exact Qx7 _ this
    ·exact this
noncomputable def A13 (g:G):List (List Int):=sortLL (A3L g (2^(endsL g.es).length))
def B3B (g:G) (hc:checkG g=0) (hl:g.es.length≤40) (hE:(endsL g.es).length≤20):ACall Tryz.prog 60 [tG g] (A05 (A13 g)):=by
 have hs:=B8U (g:=g) (by omega) hc;have hZ:=B18 g hs.s hs.es hs.m;have hS:=fun w hw=>C58 (endsL g.es).length w (by omega) hw
 have hIs:=fun w=>C7N g (zI (setN (endsL g.es).length w)) hl hc (fun x hx=>by
  obtain ⟨a,rfl,ha,-⟩:=B6n.1 hx; omega) (by rw [A3n]; have:=A4x (endsL g.es).length w; omega)
 have hzl: ∀w,(zI (setN (endsL g.es).length w)).length≤20:=fun w=>by rw [A3n]; have:=A4x (endsL g.es).length w; omega
 have hsl:=A83 g;have hsu: ∀w,A3L g (w+1)=if treeB g.n.toNat (endsL g.es) (zI (setN (endsL g.es).length w))=true then A3L g w++[zI (setN (endsL g.es).length w)] else A3L g w:=fun _=>rfl
 have hpE:2^(endsL g.es).length≤2^20:=Qq3 (by omega) hE
 have hO:ACall Tryz.prog 104 [A05 (A3L g (2^(endsL g.es).length))] (A05 (A13 g)):=B7H _ (by have:=hsl (2^(endsL g.es).length); omega) (fun x hx=>by
  obtain ⟨w,-,rfl,-⟩:=A6Q.1 hx
  have:=hzl w; omega)
 have hz:A0l []=A0n (A3L g 0):=rfl;have hz1:(A3L g 0).length=0:=rfl;generalize A13 g=R at*;generalize A3L g=sp at*;obtain ⟨n,es⟩:=g;simp only at*;generalize treeB n.toNat (endsL es)=tB at*;generalize endsL es=L at*;generalize L.length=E at*;refine ACall.of_body Tryz.func60 rfl (by kernel_rfl) ?_;simp only [entry,Tryz.ntmps60,tG];refine zU ?_;refine zR Qv5 (zc hZ Qv5) Qv5 ?_;rw [show (1:Int)=((2^0:Nat):Int) from rfl];refine AWp.loopS (α:=Nat) 35 (fun i=>[(1,.c (.ptr 0 0)),(3,.c (.int .i64 (E:Int))),(4,.c (.int .i64 ((2^i:Nat):Int))),(5,.c (.int .i64 (i:Int)))]) (fun i=>[.box [.int .i64 n,.slice (A0f es) .none]]) (fun i=>i≤E) (fun i=>E-i) (0) (hk:=Weak.headL 1 35 [1,3,4,5] zW) (h0:=?_) (round:=fun i hI=>?_)
 ·exact Xj _
 ·have hi:i≤E:=hI;clear hI;by_cases hlt:i<E
  ·have hltI:(i:Int)<(E:Int):=by omega
   have hp:2^(i+1)=2^i*2:=Nat.pow_succ 2 i;have hpl:2^i≤2^20:=Qq3 (by omega) (by omega);generalize hQ:2^(i+1)=Q1 at*;generalize 2^i=Q at*;have hpI:(Q:Int)*2=(Q1:Int):=by omega
   refine zR (zc @hltI (zc @hpI Qv5)) Qv5 Qv5 ?_;refine ⟨i+1,Weak.headF 1 35 [1,3,4,5] (zc @hQ Qv5) zW,?_,?_⟩
   ·exact hlt
   ·omega
  ·have ei:i=E:=by omega
   have hnl: ¬(i:Int)<(E:Int):=by omega
   rw [ei] at hnl;rw [ei];clear hlt hi ei;generalize 2^E=P at*;refine zJ (stop 9) (zc @hnl Qv5) Qv5 Qv5 Qv5 ?_;refine AWp.weak (Weak.opens ((fun t f=>[f,f,f,f,f,f,t,f,f,f,f,f,f,f,f,f,f,f,f,f,f,f,f,f,f,f,f,f,f,f,f,f,f,f,f]) true false) 1 (by first | omega | simp)) ?_;simp only [A2t,A7l,List.length_cons,List.length_nil,Xv,Nat.reduceAdd,List.cons_append,List.nil_append];refine zR Qv5 Qv5 Qv5 ?_;rw [show AVal.c (ACell.slice [] (.chain 1))=AVal.c (ACell.slice (A0n (sp 0)) (.chain 1)) by rw [<-hz]; rfl,show Blk.chain 0 1=Blk.chain (sp 0).length 1 by rw [hz1]];refine AWp.loopS (α:=Nat) 35 (fun w=>[(1,.c (.ptr 0 0)),(3,.c (.int .i64 (E:Int))),(4,.c (.int .i64 (P:Int))),(6,.c (.slice (A0n (sp w)) (.chain 1))),(7,.c (.int .i64 (w:Int)))]) (fun w=>[.box [.int .i64 n,.slice (A0f es) .none],.chain (sp w).length 1]) (fun w=>w≤P) (fun w=>P-w) (0) (hk:=Weak.headL 2 35 [1,3,4,6,7] zW) (h0:=?_) (round:=fun w hI=>?_)
   ·exact Xj _
   ·have hw:w≤P:=hI;clear hI;by_cases hwl:w<P
    ·have hwI:(w:Int)<(P:Int):=by omega
     have hS1:=hS w (by omega);have hI1:=hIs w;have hs1:=hsu w;have hl1:=hsl w;generalize zI (setN E w)=T at*;generalize hX1:sp (w+1)=X1 at*;generalize sp w=X at*;by_cases hb:tB T=true
     ·rw [if_pos hb] at hs1;rw [hb] at hI1;have hln:X1.length=X.length+1:=by rw [hs1]; simp
      refine zRc (zc @hwI (zc @A0i (zc @A2x Qv5))) (zc hS1 (zc hI1 Qv5)) @A1F ?_;rw [<-hs1];refine ⟨w+1,Weak.headF 2 35 [1,3,4,6,7] (zc @hX1 (zc @hln Qv5)) zW,?_,?_⟩
      ·exact hwl
      ·omega
     ·rw [if_neg hb] at hs1;have hb:tB T=false:=by simpa using hb
      rw [hb] at hI1;refine zR (zc @hwI Qv5) (zc hS1 (zc hI1 Qv5)) Qv5 ?_;rw [<-hs1];refine ⟨w+1,Weak.headF 2 35 [1,3,4,6,7] (zc @hX1 Qv5) zW,?_,?_⟩
      ·exact hwl
      ·omega
    ·have ew:w=P:=by omega
     have hnl: ¬(w:Int)<(P:Int):=by omega
     rw [ew] at hnl;rw [ew];generalize sp P=X at*;refine zR (zc @hnl Qv5) (zc hO Qv5) Qv5 ?_;simp [A0s,A0r,Blk.cells,ty,Tryz.results60,A0o,A0p,toT,A0d,A0b,A0c,A0a,A05]
def sC (O:List (List Int)):List ACell:=O.map fun x=> .slice (A0l x) .none
variable {O:List (List Int)}
def A6R {m:Nat}:Go.Sp.cellsIn m (sC O):=fun c hc=>by
 obtain ⟨x,_,rfl⟩:=QY.1 hc; exact Qv3
def B1b (O:List (List Int)):(sC O).length=O.length:=by simp [sC]
def C4i {i:Nat} {x:List Int} (h:O[i]? =some x):(sC O)[i]? =some (.slice (A0l x) .none):=by simp [sC,h]
def C4j (O:List (List Int)) (i:Nat) (x:List Int):(sC O).set i (.slice (A0l x) .none)=sC (O.set i x):=by simp [sC,Qj4]
def C1i (O:List (List Int)):flatRows (A0n O)=sC O:=by
 unfold flatRows A0n sC
 induction O with
 | nil=>rfl
 | cons x l ih=>simp only [XY,List.flatten_cons,Jz,ZQ,List.singleton_append] at ih ⊢; rw [ih]; rfl
def C1j (O:List (List Int)):(sC O).mapM A0a=some (O.map fun x=>Tree.slice (A0l x))∧chunks 1 O.length (O.map fun x=>Tree.slice (A0l x))=A0n O:=by
 unfold sC;constructor
 ·induction O with
  | nil=>rfl
  | cons x l ih=>simp only [XY,JY,ih]; rfl
 ·have h:=B4L (O.map fun x=>Tree.slice (A0l x));rw [XW] at h;rw [h]; simp [A0n]
def gkA (a F:List (List Int)):Nat->List (List Int)
 | 0=>a
 | k+1=>B7F (gkA a F k) (F.getD k [])
def A9I (fr:List Int->List (List Int)) (Ts:List (List Int)):Nat->List (List Int)
 | 0=>[]
 | i+1=>gkA (A9I fr Ts i) (fr (Ts.getD i [])) (fr (Ts.getD i [])).length
def B0c (O:List (List Int)) (i k:Nat):List (List Int):=if A1I (O.getD k []) (O.getD i [])<0 then (O.set i (O.getD k [])).set k (O.getD i []) else O
def B2p (O:List (List Int)) (i:Nat):Nat->List (List Int)
 | 0=>O
 | m+1=>B0c (B2p O i m) i (i+1+m)
def B0d (O:List (List Int)):Nat->List (List Int)
 | 0=>O
 | i+1=>B2p (B0d O i) i (O.length-(i+1))
def C1k (O:List (List Int)) (i k:Nat):(B0c O i k).length=O.length:=by unfold B0c; split<;>simp
def A4y (O:List (List Int)) (i:Nat): ∀m,(B2p O i m).length=O.length
 | 0=>rfl
 | m+1=>by simp only [B2p]; rw [C1k,A4y O i m]
def A5A (O:List (List Int)): ∀i,(B0d O i).length=O.length
 | 0=>rfl
 | i+1=>by simp only [B0d]; rw [A4y,A5A O i]
def B7T {i k:Nat} (hi:i<O.length) (hk:k<O.length):(B0c O i k).Perm O:=by
 unfold B0c;split
 ·have e1:O.getD i []=O[i]:=by rw [Qz,Qq hi]; rfl
  have e2:O.getD k []=O[k]:=by rw [Qz,Qq hk]; rfl
  rw [e1,e2];exact List.set_set_perm hi hk
 ·exact .refl _
def A9J {i:Nat}: ∀m,i+m<O.length->(B2p O i m).Perm O
 | 0,_=> .refl _
 | m+1,h=>(B7T (by rw [A4y]; omega) (by rw [A4y]; omega)).trans (A9J m (by omega))
def A6S (O:List (List Int)): ∀i,i≤O.length->(B0d O i).Perm O
 | 0,_=> .refl _
 | i+1,h=>by
  simp only [B0d];exact (A9J _ (by rw [A5A]; omega)).trans (A6S O i (by omega))
def B6z (a F:List (List Int)): ∀k,(gkA a F k).length≤a.length+k
 | 0=>Qk _
 | k+1=>by have:=B6z a F k; have:=C01 (gkA a F k) (F.getD k []); simp only [gkA]; omega
def C1l {a F:List (List Int)} {x:List Int}: ∀{k},k≤F.length->(x∈gkA a F k↔x∈a∨x∈F.take k)
 | 0,_=>by simp [gkA]
 | k+1,h=>by
  have ih:= @C1l a F x k (by omega);have e:F.getD k []=F[k]:=by rw [Qz,Qq (by omega)]; rfl
  simp only [gkA];rw [Xy (by omega),e];unfold B7F;split
  ·rename_i hm;rw [ih,XZ,XQ];constructor
   ·rintro (q | q)
    ·exact .inl q
    ·exact .inr (.inl q)
   ·rintro (q | q | q)
    ·exact .inl q
    ·exact .inr q
    ·exact ih.1 (q▸hm)
  ·rw [XZ,ih,XZ,XQ];constructor
   ·rintro ((q | q) | q)
    ·exact .inl q
    ·exact .inr (.inl q)
    ·exact .inr (.inr q)
   ·rintro (q | q | q)
    ·exact .inl (.inl q)
    ·exact .inl (.inr q)
    ·exact .inr q
def C1m {a:List (List Int)} {x:List Int} (h:a.Nodup):(B7F a x).Nodup:=by
 unfold B7F;split
 ·exact h
 ·rename_i hm;rw [YW];refine ⟨h,by simp,fun y hy z hz e=>hm ?_⟩;rw [XQ] at hz;rw [<-hz,<-e]; exact hy
def B60 {a F:List (List Int)} (h:a.Nodup): ∀k,(gkA a F k).Nodup
 | 0=>h
 | k+1=>C1m (B60 h k)
def B3C (fr:List Int->List (List Int)) (Ts:List (List Int)): ∀i,(A9I fr Ts i).Nodup
 | 0=>by simp [A9I]
 | i+1=>B60 (B3C fr Ts i) _
def A9K {fr:List Int->List (List Int)} {Ts:List (List Int)} {x:List Int}: ∀{i},i≤Ts.length->(x∈A9I fr Ts i↔ ∃t,t∈Ts.take i∧x∈fr t)
 | 0,_=>by simp [A9I]
 | i+1,h=>by
  have ih:= @A9K fr Ts x i (by omega);have e:Ts.getD i []=Ts[i]:=by rw [Qz,Qq (by omega)]; rfl
  simp only [A9I];rw [C1l (Qk _),ih,Zz,Xy (by omega),e];constructor
  ·rintro (⟨t,ht,q⟩ | q)
   ·exact ⟨t,Qx7 _ ht,q⟩
   ·exact ⟨_,List.mem_append_right _ (XQ.2 rfl),q⟩
  ·rintro ⟨t,ht,q⟩;rcases XZ.1 ht with ht | ht
   ·exact .inl ⟨t,ht,q⟩
   ·rw [XQ] at ht; exact .inr (ht▸q)
def C7W (n:Int) (es:List E) (a b:Nat): ∀(id:Nat) (blk:Blk),[Blk.box [.int .i64 n,.slice (A0f es) .none],.chain a b][id]? =some blk->B7c blk:=B5W fun blk hb=>by
 simp only [QV,XJ,or_false] at hb;rcases hb with rfl | rfl
 ·intro c hc;simp only [QV,XJ,or_false] at hc;rcases hc with rfl | rfl
  ·exact Qv3
  ·exact B3l es
 ·exact Qv3
def B3D (g:G) (hc:checkG g=0) (hl:g.es.length≤40) (hE:(endsL g.es).length≤9) (fr:List Int->List (List Int)) (hfr: ∀t,fr t=A3q g.n.toNat (endsL g.es) t (endsL g.es).length) (O:List (List Int)) (hO:O=A9I fr (A13 g) (A13 g).length) (hne:O≠[]):
  ACall Tryz.prog 69 [tG g] (A05 (B0d O O.length)):=by
 have hT:=B3B g hc hl (by omega);have hF: ∀t,t.length<2^40->ACall Tryz.prog 111 [tG g,A0k t] (A05 (fr t)):=fun t ht=>by rw [hfr]; exact C50 g t hc hl ht (by omega)
 have hp9:2^(endsL g.es).length≤2^9:=Qq3 (by omega) hE;have hrow: ∀t y,y∈fr t->y.length=g.n.toNat:=fun t y hy=>by rw [hfr] at hy; exact (A8x _ _ _ _ y hy).1
 have hfl: ∀t,(fr t).length≤2^9:=fun t=>by rw [hfr]; have:=A8w g.n.toNat (endsL g.es) t (endsL g.es).length; omega
 have hTl:(A13 g).length≤2^9:=by
  have h1:=(A1k (A3L g (2^(endsL g.es).length))).length_eq;have h2:=A83 g (2^(endsL g.es).length);unfold A13; omega
 have hTm: ∀t,t∈A13 g->t.length<2^40:=fun t ht=>by
  obtain ⟨w,-,rfl,-⟩:=A6Q.1 ((A1k _).mem_iff.1 ht);rw [A3n]; have:=A4x (endsL g.es).length w; omega
 have hnn:g.n.toNat≤12:=by have:=(A0h.1 hc).1; omega
 generalize A13 g=Ts at*;have hgl: ∀i,(A9I fr Ts i).length≤i*2^9:=fun i=>by
  induction i with
  | zero=>simp [A9I]
  | succ i ih=>
   have h1:=B6z (A9I fr Ts i) (fr (Ts.getD i [])) (fr (Ts.getD i [])).length;have h2:=hfl (Ts.getD i []);simp only [A9I];rw [Vx]; omega
 have hgm: ∀i,i≤Ts.length-> ∀y,y∈A9I fr Ts i->y.length=g.n.toNat:=fun i hi y hy=>by
  obtain ⟨t,-,q⟩:=(A9K hi).1 hy;exact hrow t y q
 have hgs: ∀i,A9I fr Ts (i+1)=gkA (A9I fr Ts i) (fr (Ts.getD i [])) (fr (Ts.getD i [])).length:=fun _=>rfl;have hOr:=fun (x y:List Int) (h:x.length=y.length) (h2:x.length<2^40)=>B0U x y h h2;clear hfr;obtain ⟨n,es⟩:=g;simp only at*;generalize n.toNat=nn at*;refine ACall.of_bodyF Tryz.func69 rfl (by kernel_rfl) ?_;simp only [entry,Tryz.ntmps69,tG];refine zU ?_;refine zF (stop 3) Qv5 (zc hT Qv5) Qv5 Qv5 (ed fun hp hpc=>?_);refine AWp.weak (Weak.opens ((fun t f=>[f,f,f,f,t,f,f,f,f,f,f,f,f,f,f,f,f,f,f,f,f,f,f,f,f,f,f,f,f,f,f,f,f,f,f,f,f,f,f,f,f,f,f,f,f,f,f,f,f,f,f,f,f,f,f,f,f,f,f,f,f,f,f,f,f,f,f,f,f,f,f,f,f,f,f,f,f,f,f,f,f,f,f]) true false) 1 (by first | omega | simp)) ?_;simp only [A2t,A7l,List.length_cons,List.length_nil,Xv,Nat.reduceAdd,List.cons_append,List.nil_append];refine zF trivial trivial trivial trivial trivial (ed fun hp hpc=>?_);refine AWp.loopS (α:=Nat) 83 (fun i=>[(1,.c (.ptr 0 0)),(3,.c (.slice (A0n Ts) .none)),(4,.c (.slice (A0n (A9I fr Ts i)) (.chain 1))),(5,.c (.int .i64 (i:Int)))]) (fun i=>[.box [.int .i64 n,.slice (A0f es) .none],.chain (A9I fr Ts i).length 1]) (fun i=>i≤Ts.length) (fun i=>Ts.length-i) (0) (hk:=Weak.headL 2 83 [1,3,4,5] (zWs @A6R)) (h0:=?_) (round:=fun i hI=>?_)
 ·exact Xj _
 ·have hi:i≤Ts.length:=hI;clear hI;by_cases hil:i<Ts.length
  ·have hiI:(i:Int)<(Ts.length:Int):=by omega
   have o0:=Qq hil;have o1:=A0D o0;have hg1:=hgs i;have hgl1:=hgl i;have hgm1:=hgm i hi;have hF1:=hF _ (hTm _ (Xw hil));have hr1:=hrow Ts[i];have hf1:=hfl Ts[i];rw [Qz,o0,Option.getD_some] at hg1;generalize Ts[i]=T at*;generalize fr T=F at*;generalize hX1:A9I fr Ts (i+1)=X1 at*;generalize A9I fr Ts i=X at*;have hkl:=B6z X F;have hkm:=fun k hk y=> @C1l X F y k hk;have hk0:gkA X F 0=X:=rfl;have hks: ∀k,gkA X F (k+1)=B7F (gkA X F k) (F.getD k []):=fun _=>rfl;generalize gkA X F=kx at*;refine zM Qv5 (zc @hiI (zc @o1 (zc @A0i Qv5))) (zc hF1 Qv5) Qv5 Qv5 (ed fun hp hpc=>?_)
   all_goals rw [<-hk0]
   refine AWp.loopS (α:=Nat) 83 (fun k=>[(1,.c (.ptr 0 0)),(3,.c (.slice (A0n Ts) .none)),(4,.c (.slice (A0n (kx k)) (.chain 1))),(5,.c (.int .i64 (i:Int))),(6,.c (.slice (A0n F) .none)),(7,.c (.int .i64 (k:Int)))]) (fun k=>[.box [.int .i64 n,.slice (A0f es) .none],.chain (kx k).length 1]) (fun k=>k≤F.length) (fun k=>F.length-k) (0) (hk:=Weak.headL 2 83 [1,3,4,5,6,7] (zWs @A6R)) (h0:=?_) (round:=fun k hI=>?_)
   ·exact Xj _
   ·have hk:k≤F.length:=hI;clear hI;by_cases hkl2:k<F.length
    ·have hkI:(k:Int)<(F.length:Int):=by omega
     have q0:=Qq hkl2;have q1:=A0D q0;have hs1:=hks k;have hl1:=hkl k;rw [Qz,q0,Option.getD_some] at hs1;have hy:=hr1 _ (Xw hkl2)
     have hho:=A78 (kx k) F[k] (by omega) (fun x hx=>by
      rcases (hkm k hk x).1 hx with q | q
      ·have:=hgm1 x q; omega
      ·have:=hr1 x (JZ q); omega) (by omega)
     generalize F[k]=B at*;generalize hK1:kx (k+1)=K1 at*;generalize kx k=K0 at*;have hTl9:Ts.length≤512:=hTl;have hi9:X.length≤512*512:=by omega
     by_cases hmem:B∈K0
     ·rw [decide_eq_true hmem] at hho;have hk1:K1=K0:=by rw [hs1]; exact if_pos hmem
      refine zR (zc @hkI (zc @q1 (zc @A0i Qv5))) (zc hho Qv5) Qv5 ?_;rw [<-hk1];refine ⟨k+1,Weak.headF 2 83 [1,3,4,5,6,7] (zc @hK1 Qv5) (zWs @A6R),?_,?_⟩
      ·exact hkl2
      ·omega
     ·rw [decide_eq_false hmem] at hho;have hk1:K1=K0++[B]:=by rw [hs1]; exact if_neg hmem
      have hk2:K1.length=K0.length+1:=by rw [hk1]; simp
      refine zRc (zc @hkI (zc @q1 (zc @A0i (zc @A2x Qv5)))) (zc hho Qv5) @A1F ?_;rw [<-hk1];refine ⟨k+1,Weak.headF 2 83 [1,3,4,5,6,7] (zc @hK1 (zc @hk2 Qv5)) (zWs @A6R),?_,?_⟩
      ·exact hkl2
      ·omega
    ·have ek:k=F.length:=by omega
     have hnl: ¬(k:Int)<(F.length:Int):=by omega
     rw [ek] at hnl;rw [ek,<-hg1];refine zR (zc @hnl (zc @A0i Qv5)) Qv5 Qv5 ?_;refine ⟨i+1,Weak.headF 2 83 [1,3,4,5] (zc @hX1 Qv5) (zWs @A6R),?_,?_⟩
     ·exact hil
     ·omega
  ·have ei:i=Ts.length:=by omega
   have hnl: ¬(i:Int)<(Ts.length:Int):=by omega
   rw [ei] at hnl;rw [ei];have hOl:=hgl Ts.length;have hOm:=hgm Ts.length (Qk _);rw [<-hO] at hOl hOm ⊢;refine zF (C76 12) (zc @hnl (zc @A0i Qv5)) Qv5 Qv5 Qv5 (ed fun hp hpc=>?_);refine FWp.weak (Weak.head2 (m:=2) (by omega) ((fun t f=>[f,f,f,f,t,f,f,f,f,f,f,f,f,f,f,f,f,f,f,f,f,f,f,f,f,f,f,f,f,f,f,f,f,f,f,f,f,f,f,f,f,f,f,f,f,f,f,f,f,f,f,f,f,f,f,f,f,f,f,f,f,f,f,f,f,f,f,f,f,f,f,f,f,f,f,f,f,f,f,f,f,f,f]) true false) rfl rfl (zWs @A6R)) ?_;simp only [mask,List.take_succ_cons,List.take_zero,List.set_cons_succ,List.set_cons_zero];refine FWp.thawLT 4 rfl rfl (fun r hr=>A1F hr) (by decide) (fun r hr=>B5V hr) (by simpa [A0n] using hne) (C7W _ _ _ _) (by simp [C2o,B2I,A8Q]) (fun id h=>absurd h (Nat.not_lt_zero _)) (fun cap hcap=> ?_);rw [C1i,A0i];rw [A0i] at hcap;simp only [List.length_cons,List.length_nil,List.set_cons_succ,List.set_cons_zero,List.cons_append,List.nil_append,Nat.reduceAdd];refine FWp.of_awp ?_;refine zR Qv5 Qv5 Qv5 ?_;have hol:=A5A O;have hom: ∀i,i≤O.length-> ∀y,y∈B0d O i->y.length=nn:=fun i hi y hy=>hOm y ((A6S O i hi).mem_iff.1 hy);clear hgl hgm hgs hF hfl hrow hT;refine AWp.loopS (α:=Nat) 83 (fun j=>[(4,.c (.ref 2 1 0 O.length cap)),(8,.c (.int .i64 (j:Int)))]) (fun j=>[.box [.int .i64 n,.slice (A0f es) .none],.chain O.length 1,.box (sC (B0d O j))]) (fun j=>j≤O.length) (fun j=>O.length-j) (0) (hk:=Weak.headL 3 83 [4,8] (zWs @A6R)) (h0:=?_) (round:=fun j hI=>?_)
   ·exact Xj _
   ·have hj:j≤O.length:=hI;clear hI;by_cases hjl:j<O.length
    ·have hjI:(j:Int)<(O.length:Int):=by omega
     have hs1:B0d O (j+1)=B2p (B0d O j) j (O.length-(j+1)):=rfl;have hXl:=hol j;have hXm:=hom j hj;generalize hX1:B0d O (j+1)=X1 at*;generalize B0d O j=X at*;have hil:=A4y X j;have him: ∀m,j+m<O.length-> ∀y,y∈B2p X j m->y.length=nn:=fun m hm y hy=>hXm y ((A9J m (by omega)).mem_iff.1 hy);have hi0:B2p X j 0=X:=rfl;have his: ∀m,B2p X j (m+1)=B0c (B2p X j m) j (j+1+m):=fun _=>rfl;generalize B2p X j=iX at*;refine zR (zc @hjI Qv5) Qv5 Qv5 ?_;rw [<-hi0,show ((j:Int)+1)=((j+1+0:Nat):Int) by omega];refine AWp.loopS (α:=Nat) 83 (fun m=>[(4,.c (.ref 2 1 0 O.length cap)),(8,.c (.int .i64 (j:Int))),(9,.c (.int .i64 ((j+1+m:Nat):Int)))]) (fun m=>[.box [.int .i64 n,.slice (A0f es) .none],.chain O.length 1,.box (sC (iX m))]) (fun m=>j+1+m≤O.length) (fun m=>O.length-(j+1+m)) (0) (hk:=Weak.headL 3 83 [4,8,9] (zWs @A6R)) (h0:=?_) (round:=fun m hI=>?_)
     ·exact hjl
     ·have hm:j+1+m≤O.length:=hI;clear hI;have hYl:=hil m;by_cases hml:j+1+m<O.length
      ·have hs2:=his m;have hYm:=him m (by omega);have hYl1:=hil (m+1);generalize hY1:iX (m+1)=Y1 at*;generalize iX m=Y at*;have hja:j<Y.length:=by omega
       have hjb:j+1+m<Y.length:=by omega
       have ea:=Qq hja;have eb:=Qq hjb;have la:=hYm _ (Xw hja);have lb:=hYm _ (Xw hjb);unfold B0c at hs2;rw [Qz,Qz,ea,eb,Option.getD_some,Option.getD_some] at hs2;have sa:=C4i ea;have sb:=C4i eb;generalize Y[j]=a at*;generalize Y[j+1+m]=b at*;have ho:=hOr b a (by omega) (by omega);have hn1:((j+1+m:Nat):Int)+1=((j+1+(m+1):Nat):Int):=by omega
       generalize hk:j+1+m=k at*;have hkI:(k:Int)<(O.length:Int):=by omega
       by_cases hcm:A1I b a<0
       ·rw [if_pos hcm] at hs2;have c1:=C4j Y j b;have c2:=C4j (Y.set j b) k a;rw [<-hs2] at c2;refine zM Qv5 (zc @hjI (zc @hkI (zc @sa (zc @sb (zc @c1 (zc @c2 (zc @hcm (zc @hn1 (zc @Yz.{0} (zc @B1b (zc @hYl Qv5))))))))))) (zc ho Qv5) Qv5 Qv5 (ed fun hp hpc=>?_);refine ⟨m+1,Weak.headF 3 83 [4,8,9] (zc @hY1 Qv5) (zWs @A6R),?_,?_⟩
        ·omega
        ·omega
       ·rw [if_neg hcm] at hs2;refine zR (zc @hjI (zc @hkI (zc @sa (zc @sb (zc @hcm (zc @hn1 (zc @B1b (zc @hYl (zc @XX Qv5))))))))) (zc ho Qv5) Qv5 ?_;rw [<-hs2];refine ⟨m+1,Weak.headF 3 83 [4,8,9] (zc @hY1 Qv5) (zWs @A6R),?_,?_⟩
        ·omega
        ·omega
      ·have em:m=O.length-(j+1):=by omega
       have hnl: ¬((j+1+m:Nat):Int)<(O.length:Int):=by omega
       rw [em,<-hs1];rw [em] at hnl;refine zR (zc @hnl Qv5) Qv5 Qv5 ?_;refine ⟨j+1,Weak.headF 3 83 [4,8] (zc @hX1 Qv5) (zWs @A6R),?_,?_⟩
       ·exact hjl
       ·omega
    ·have ej:j=O.length:=by omega
     have hnl: ¬(j:Int)<(O.length:Int):=by omega
     rw [ej] at hnl;rw [ej];have hXl:=hol O.length;generalize B0d O O.length=X at*;refine zR (zc @hnl Qv5) Qv5 Qv5 ?_;have h1:=C1j X;rw [hXl] at h1;have h2:(sC X).take O.length=sC X:=Zw (by rw [B1b]; omega);simp [A0s,A0r,Tryz.results69,A0o,A0p,A0d,A0b,Blk.cells,hcap,h2,h1.1,h1.2];exact ⟨by rw [B1b]; omega,rfl⟩
end Go.Proofs.YtdbdfkohpjefjaaGreat
