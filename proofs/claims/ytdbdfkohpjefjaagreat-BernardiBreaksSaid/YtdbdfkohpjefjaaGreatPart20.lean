/- A part of the proof. -/
import Derived.Test.YtdbdfkohpjefjaaGreatPart09
import Derived.Test.YtdbdfkohpjefjaaGreatPart17
import Derived.Test.YtdbdfkohpjefjaaGreatPart18
import Derived.Test.YtdbdfkohpjefjaaGreatPart16
set_option linter.all false
set_option maxHeartbeats 4000000
set_option maxRecDepth 100000
namespace Go.Proofs.YtdbdfkohpjefjaaGreat
open Go.Sp
def ofF (r:R) (x:Nat):Int:=ofN (fR (endsL r.es) r.ar) (2*(endsL r.es).length) (2*(endsL r.es).length) x
def C00 (r:R):List (Int×Int):=(List.range (endsL r.es).length).map fun i=>(ofF r (2*i),ofF r (2*i+1))
noncomputable def C5y (r:R):G×Int:=A5W (facesR r).length (C00 r)
noncomputable def dualE (r:R):Int:=if ribE r≠0 then ribE r else if 12<(facesR r).length then 5 else (C5y r).2
def C7O (O N:List Int) (x:Int):Int:=
 2*N.getD (x.toNat / 2) 0+(if O.getD (oppH x.toNat) 0<O.getD x.toNat 0∨(O.getD x.toNat 0=O.getD (oppH x.toNat) 0∧x.toNat%2=1) then 1 else 0)
def C6R (r:R):List (List Int):=(C6N r).map fun l=>C6A (l.map (C7O (B9o (2*(endsL r.es).length) (ofF r)) (C7Y (C00 r))))
noncomputable def dualD (r:R):R:=if dualE r≠0 then ⟨0,[],[]⟩ else ⟨(C5y r).1.n,(C5y r).1.es,C6R r⟩
noncomputable def dualN (r:R):List Int:=if dualE r≠0 then [] else C7Y (C00 r)
section
variable {N:Nat} {f:Nat->Nat}
end
section
variable {J:List (Int×Int)}
end
def A2p (g:G) (a b:Int):Bool:=decide (g.es.length≤40)&&(decide (checkG g≠0)||(decide (g.n≤a)&&decide (((endsL g.es).length:Int)≤b)))
def C3o (g:G) (a b:Int):ACall Tryz.prog 97 [tG g,A0j a,A0j b] (A0q (A2p g a b)):=by
 refine ACall.of_body Tryz.func97 rfl (by kernel_rfl) ?_;simp only [entry,Tryz.ntmps97,tG,A0j];refine zU ?_;by_cases hl:g.es.length≤40
 ·by_cases hc:checkG g=0
  ·have hs:=B8U (g:=g) (by omega) hc;have e:A2p g a b=(decide (g.n≤a)&&decide (((endsL g.es).length:Int)≤b)):=by unfold A2p; rw [decide_eq_true hl,hc,VQ,show decide ((0:Int)≠0)=false by decide,Qq7]
   rw [e];by_cases hn:g.n≤a
   ·rw [decide_eq_true hn,VQ];refine zM Qv5 (zc @A00 (zc @hc (zc @hn Qv5))) (zc (A6y g (by omega)) (zc (B18 g hs.s hs.es hs.m) Qv5)) Qv5 Qv5 (ed fun hp hpc=>?_);simp [A0s,A0r,Blk.cells,ty,Tryz.results97,A0o,A0p,toT,A0d,A0b,A0c,A0a,A0q]
   ·rw [decide_eq_false hn,VW];refine zM Qv5 (zc @A00 (zc @hc (zc @hn Qv5))) (zc (A6y g (by omega)) (zc (B18 g hs.s hs.es hs.m) Qv5)) Qv5 Qv5 (ed fun hp hpc=>?_);simp [A0s,A0r,Blk.cells,ty,Tryz.results97,A0o,A0p,toT,A0d,A0b,A0c,A0a,A0q]
  ·
   refine zM Qv5 (zc @A00 Qv5) (zc (A6y g (by omega)) Qv5) Qv5 Qv5 (ed fun hp hpc=>?_);have e:A2p g a b=true:=by unfold A2p; rw [decide_eq_true hl,decide_eq_true (show checkG g≠0 from hc)]; rfl
   simp [A0s,A0r,Blk.cells,ty,Tryz.results97,A0o,A0p,toT,A0d,A0b,A0c,A0a,A0q,e]
 ·
  refine zR (zc @A00 Qv5) Qv5 Qv5 ?_;have e:A2p g a b=false:=by unfold A2p; rw [decide_eq_false hl]; rfl
  simp [A0s,A0r,Blk.cells,ty,Tryz.results97,A0o,A0p,toT,A0d,A0b,A0c,A0a,A0q,e]
def C7Z (r:R):Bool:=A2p r.g 6 9&&(decide (r.ar.length≤20)&&r.ar.all fun l=>decide (l.length≤40))
def C6S {r:R} (h:C7Z r=true):RSm r:=by
 unfold C7Z A2p at h;simp only [XV,decide_eq_true_eq,ZX] at h;exact ⟨h.1.1,by omega,fun l hl=>by have:=h.2.2 l hl; omega⟩
def bump (d:List Int) (v:Nat):List Int:=d.set v (d.getD v 0+1)
def B7F (a:List (List Int)) (x:List Int):List (List Int):=if x∈a then a else a++[x]
def vK (p:Int×Int) (k:Nat):Nat:=if k=0 then p.1.toNat else p.2.toNat
def kxA (a:List (List Int)) (d:List Int) (p:Int×Int):Nat->List (List Int)
 | 0=>a
 | k+1=>B7F (kxA a d p k) (bump d (vK p k))
def nxA (O:List (List Int)) (p:Int×Int):Nat->List (List Int)
 | 0=>[]
 | i+1=>kxA (nxA O p i) (O.getD i []) p 2
def A3q (n:Nat) (L:List (Int×Int)) (t:List Int):Nat->List (List Int)
 | 0=>[List.replicate n 0]
 | e+1=>if (e:Int)∈t then A3q n L t e else nxA (A3q n L t e) (L.getD e (0,0)) (A3q n L t e).length
def B1R (d:List Int) (v:Nat):(bump d v).length=d.length:=by simp [bump]
def C01 (a:List (List Int)) (x:List Int):(B7F a x).length≤a.length+1:=by unfold B7F; split<;>simp
def C02 (a:List (List Int)) (d:List Int) (p:Int×Int): ∀k,(kxA a d p k).length≤a.length+k
 | 0=>by simp [kxA]
 | k+1=>by have:=C02 a d p k; have:=C01 (kxA a d p k) (bump d (vK p k)); simp only [kxA]; omega
def C03 (O:List (List Int)) (p:Int×Int): ∀i,(nxA O p i).length≤2*i
 | 0=>by simp [nxA]
 | i+1=>by have:=C03 O p i; have:=C02 (nxA O p i) (O.getD i []) p 2; simp only [nxA]; omega
def A8w (n:Nat) (L:List (Int×Int)) (t:List Int): ∀e,(A3q n L t e).length≤2^e
 | 0=>by simp [A3q]
 | e+1=>by
  have h1:=A8w n L t e;have h2:=C03 (A3q n L t e) (L.getD e (0,0)) (A3q n L t e).length;have h3:2^(e+1)=2*2^e:=by omega
  simp only [A3q];split<;>omega
def B8m (n:Nat) (c:Int) (x:List Int):Prop:=x.length=n∧ ∀v,0≤x.getD v 0∧x.getD v 0≤c
def B6m {n:Nat} {c:Int} {d:List Int} (v:Nat) (h:B8m n c d):B8m n (c+1) (bump d v):=by
 refine ⟨by rw [B1R]; exact h.1,fun w=> ?_⟩;have h1:=h.2 v;have h2:=h.2 w;unfold bump;rw [Qz,Qq0];split
 ·split
  ·simp only [Option.getD_some]; omega
  ·simp only [Option.getD_none]; omega
 ·rw [<-Qz]; omega
def C5z {n:Nat} {c:Int} {a:List (List Int)} {x:List Int} (ha: ∀y,y∈a->B8m n c y) (hx:B8m n c x): ∀y,y∈B7F a x->B8m n c y:=by
 unfold B7F;split
 ·exact ha
 ·intro y hy;rcases XZ.1 hy with h | h
  ·exact ha y h
  ·rw [XQ.1 h]; exact hx
def C04 {n:Nat} {c:Int} {a:List (List Int)} {d:List Int} {p:Int×Int} (ha: ∀y,y∈a->B8m n (c+1) y) (hd:B8m n c d): ∀k,∀y,y∈kxA a d p k->B8m n (c+1) y
 | 0=>ha
 | k+1=>C5z (C04 ha hd k) (B6m _ hd)
def C05 {n:Nat} {c:Int} {O:List (List Int)} {p:Int×Int} (hO: ∀y,y∈O->B8m n c y): ∀i,i≤O.length-> ∀y,y∈nxA O p i->B8m n (c+1) y
 | 0,_=>fun y hy=>by cases hy
 | i+1,hi=>by
  refine C04 (C05 hO i (by omega)) ?_ 2;have:O.getD i []=O[i]:=by rw [Qz,Qq hi]; rfl
  rw [this]; exact hO _ (Xw hi)
def A8x (n:Nat) (L:List (Int×Int)) (t:List Int): ∀e:Nat,∀y,y∈A3q n L t e->B8m n (e:Int) y
 | 0=>fun y hy=>by
  rw [A3q,XQ] at hy;subst hy;refine ⟨by simp,fun v=> ?_⟩;rw [Qz,Qq2]; split<;>simp
 | e+1=>by
  have ih:=A8x n L t e;simp only [A3q];split
  ·intro y hy;obtain ⟨q1,q2⟩:=ih y hy;exact ⟨q1,fun v=>by have:=q2 v; omega⟩
  ·intro y hy;have:=C05 ih _ (Qk _) y hy;rwa [Int.natCast_add,Int.natCast_one]
section
variable {P:Program} {rd:Option Nat} {h:Nat} {Q:Exit->St->Prop} {c:Code} {tm:List AVal} {H:List Blk}
def C3p (t j:Nat) (tok:Tok) (d:List Int) {n:Nat} (hd:d.length=n) (ht:tm[t]? =some (.c (.rows [[.ref j 1 0 n n]] tok))) (hj:H[j]? =some (.box (iC d)))
  (hw:AWp P rd h c Q ⟨tm.set t (.c (.slice (A0n [d]) .none)),H.set j (roB d)⟩):AWp P rd h c Q ⟨tm,H⟩:=by
 have hjl:=(Qx.1 hj).1;refine AWp.freeze0 j hj (ts:=B0M d) (A65 d) tm (fun _ _ _ _ _ h=>h) ?_;refine AWp.rowsData t _ tok [Tree.slice (A0l d)] ht rfl (fun i r hr=> ?_) hw;cases i with
 | zero=>
  cases hr;refine ⟨_,.slice (A0l d),rfl,rfl,fun ι σ w u hH hu=> ?_⟩;refine B58 (ts:=B0M d) hH ?_ hu (by rw [A0e]; exact hd) (Qk _) (fun r hr=>A1c hr) (A4Z d);rw [QX hjl]
 | succ i=>simp at hr
end
def C50 (g:G) (t:List Int) (hc:checkG g=0) (hl:g.es.length≤40) (htl:t.length<2^40) (hE:(endsL g.es).length≤20):
  ACall Tryz.prog 111 [tG g,A0k t] (A05 (A3q g.n.toNat (endsL g.es) t (endsL g.es).length)):=by
 have h12:=(A0h.1 hc).1;obtain ⟨n,hn⟩: ∃n:Nat,g.n=n:=⟨g.n.toNat,by omega⟩;have hIn:=A1V hc hn;have hEn:=B0O g hl hc;have hH:=fun e=>C2O t (e:Int) htl;have hr:=A8x n (endsL g.es) t;have hln:=A8w n (endsL g.es) t;have hz:A3q n (endsL g.es) t 0=[List.replicate n 0]:=rfl;have hsu: ∀e,A3q n (endsL g.es) t (e+1)=if (e:Int)∈t then A3q n (endsL g.es) t e else nxA (A3q n (endsL g.es) t e) ((endsL g.es).getD e (0,0)) (A3q n (endsL g.es) t e).length:=fun _=>rfl
 rw [show g.n.toNat=n by omega];generalize A3q n (endsL g.es) t=fr at*;obtain ⟨n',es⟩:=g;simp only at*;subst hn;generalize endsL es=L at*;have hn0:0≤(n:Int):=by omega
 refine ACall.of_body Tryz.func111 rfl (by kernel_rfl) ?_;simp only [entry,Tryz.ntmps111,tG,A0k];refine zU ?_;refine zM (stop 2) (zc @hn0 (zc @A1R (zc @A12 (zc @Yj.{0} Qv5)))) Qv5 Qv5 Qv5 (ed fun hp hpc=>?_);refine C3p 5 1 .exact (List.replicate n 0) (by simp) rfl rfl ?_;simp only [List.set_cons_succ,List.set_cons_zero];rw [<-hz];refine zR Qv5 (zc hEn Qv5) Qv5 ?_;refine AWp.loopS (α:=Nat) 71 (fun e=>[(1,.c (.slice (A0l t) .none)),(2,.c (.ptr 0 0)),(5,.c (.slice (A0n (fr e)) .none)),(6,.c (.slice (A0U L) .none)),(7,.c (.int .i64 (e:Int)))]) (fun e=>[.box [.int .i64 (n:Int),.slice (A0f es) .none]]) (fun e=>e≤L.length) (fun e=>L.length-e) (0) (hk:=Weak.headL 1 71 [1,2,5,6,7] (zWs @A0V)) (h0:=?_) (round:=fun e hI=>?_)
 ·exact Xj _
 ·have he :e≤L.length:=hI;clear hI;by_cases hlt:e<L.length
  ·have hltI:(e:Int)<(L.length:Int):=by omega
   have cH:=hH e;have hs:=hsu e;by_cases hm:(e:Int)∈t
   ·rw [decide_eq_true hm] at cH;rw [if_pos hm] at hs;rw [<-hs];refine zR (zc @hltI (zc @A0z Qv5)) (zc cH Qv5) Qv5 ?_;refine ⟨e+1,Weak.headN 1 71 [1,2,5,6,7] (zWs @A0V),?_,?_⟩
    ·exact hlt
    ·omega
   ·rw [decide_eq_false hm] at cH;rw [if_neg hm] at hs;have e0:=Qq hlt;have e1:=A28 e0;have hp:=hIn _ (Xw hlt);have hO:=hr e;have hOl:=hln e;have hpw:2^e≤2^20:=Qq3 (by omega) (by omega);rw [Qz,e0,Option.getD_some] at hs;generalize L[e]=p at*;obtain ⟨pa,pb⟩:=p;obtain ⟨a,rfl⟩: ∃a:Nat,pa=a:=⟨pa.toNat,by simp only at hp; omega⟩;obtain ⟨b,rfl⟩: ∃b:Nat,pb=b:=⟨pb.toNat,by simp only at hp; omega⟩;simp only at hp e1;have hva:vK ((a:Int),(b:Int)) 0=a:=rfl;have hvb:vK ((a:Int),(b:Int)) 1=b:=rfl;generalize hpp:((a:Int),(b:Int))=p at hs hva hvb;generalize hO1:fr (e+1)=O1 at*;generalize fr e=O at*;clear hH hsu hr hln hIn;have hnl2:=C03 O p;have hnr:=C05 (p:=p) hO;have hz0:nxA O p 0=[]:=rfl;have hns: ∀i,nxA O p (i+1)=kxA (nxA O p i) (O.getD i []) p 2:=fun _=>rfl;refine zJ (stop 9) (zc @hltI (zc @A0z Qv5)) (zc cH Qv5) Qv5 Qv5 ?_;refine AWp.weak (Weak.opens ((fun t f=>[f,f,f,f,f,f,f,f,t,f,f,f,f,f,f,f,f,f,f,f,f,f,f,f,f,f,f,f,f,f,f,f,f,f,f,f,f,f,f,f,f,f,f,f,f,f,f,f,f,f,f,f,f,f,f,f,f,f,f,f,f,f,f,f,f,f,f,f,f,f,f]) true false) 1 (by first | omega | simp)) ?_;simp only [A2t,A7l,List.length_cons,List.length_nil,Xv,Nat.reduceAdd,List.cons_append,List.nil_append];refine zR Qv5 Qv5 Qv5 ?_;refine AWp.loopS (α:=Nat) 71 (fun i=>[(1,.c (.slice (A0l t) .none)),(2,.c (.ptr 0 0)),(5,.c (.slice (A0n O) .none)),(6,.c (.slice (A0U L) .none)),(7,.c (.int .i64 (e:Int))),(8,.c (.slice (A0n (nxA O p i)) (.chain 1))),(9,.c (.int .i64 (i:Int)))]) (fun i=>[.box [.int .i64 (n:Int),.slice (A0f es) .none],.chain (nxA O p i).length 1]) (fun i=>i≤O.length) (fun i=>O.length-i) (0) (hk:=Weak.headL 2 71 [1,2,5,6,7,8,9] (zWs @A0V)) (h0:=?_) (round:=fun i hI=>?_)
    ·exact Xj _
    ·have hi:i≤O.length:=hI;clear hI;generalize nxA O p=nx at*;by_cases hil:i<O.length
     ·have hiI:(i:Int)<(O.length:Int):=by omega
      have o0:=Qq hil;have o1:=A0D o0;have hd:=hO _ (Xw hil);have hn2:=hns i;have hl2:=hnl2 i;have hr2:=hnr i hi;rw [Qz,o0,Option.getD_some] at hn2;generalize O[i]=d at*;generalize hX1:nx (i+1)=X1 at*;generalize nx i=X at*;have hkl:=C02 X d p;have hkr:=C04 (p:=p) hr2 hd;have hk0:kxA X d p 0=X:=rfl;have hks: ∀k,kxA X d p (k+1)=B7F (kxA X d p k) (bump d (vK p k)):=fun _=>rfl;generalize kxA X d p=kx at*;refine zR (zc @hiI (zc @A0i Qv5)) Qv5 Qv5 ?_;rw [<-hk0];refine AWp.loopS (α:=Nat) 71 (fun k=>[(1,.c (.slice (A0l t) .none)),(2,.c (.ptr 0 0)),(5,.c (.slice (A0n O) .none)),(6,.c (.slice (A0U L) .none)),(7,.c (.int .i64 (e:Int))),(8,.c (.slice (A0n (kx k)) (.chain 1))),(9,.c (.int .i64 (i:Int))),(10,.c (.int .i64 (k:Int)))]) (fun k=>[.box [.int .i64 (n:Int),.slice (A0f es) .none],.chain (kx k).length 1]) (fun k=>k≤2) (fun k=>2-k) (0) (hk:=Weak.headL 2 71 [1,2,5,6,7,8,9,10] (zWs @A0V)) (h0:=?_) (round:=fun k hI=>?_)
      ·exact Xj _
      ·have hk:k≤2:=hI;clear hI;by_cases hkl2:k<2
       ·have hkI:(k:Int)<2:=by omega
        have hdl:=hd.1;have hrk: ∀r,r∈A0l d->r.length=1:=fun r hr=>A1c hr;have hflat:flatRows (A0l d)=iC d:=A53 d;have hrl:(A0l d).length=n:=by rw [A0e]; exact hdl
        refine zM (zc Qv5 (prt 14 5)) (zc @hkI (zc @o1 (zc @hiI (zc @A0i Qv5)))) Qv5 Qv5 Qv5 (ed fun hp hpc=>?_);simp only [Zy,Yq];refine AReg.step rfl rfl (A7q (e:=3) (e2:=3) (k:=1) (z:= .int .i64 0) (by':=8) (rows:=A0l d) _ _ _ _ rfl (by simp only [ty]) (by simp only [ty]) (by simp only [ty]) (by decide) (by simp only [ty]) rfl (by simp only [ty]) rfl rfl hrk (by omega) (by omega) (by omega)) ?_;refine AReg.rest (fun K hK=> ?_);simp only [hflat,hrl];have hxk:k=0∧vK p k=a∨k=1∧vK p k=b:=by
         have:k=0∨k=1:=by omega
         rcases this with rfl | rfl
         ·exact .inl ⟨rfl,hva⟩
         ·exact .inr ⟨rfl,hvb⟩
        have hkl1:=hkl k;have hkr1:=hkr k;have hks1:=hks k;have hkl3:=hkl (k+1);have hbr:=B6m (vK p k) hd;have hcalc: ∀v:Nat,v<n->(iC d)[v]? =some (.int .i64 (d.getD v 0))∧(iC d).set v (.int .i64 (d.getD v 0+1))=iC (bump d v):=fun v hv=>by
         refine ⟨A5K ?_,by rw [A9j]; rfl⟩;rw [Qz,Qq (by omega)]; rfl
        have hdv:=hd.2;have hho:=A78 (kx k) (bump d (vK p k)) (by omega) (fun x hx=>by have:=(hkr1 x hx).1; omega) (by rw [hbr.1]; omega);have hbl:=hbr.1;generalize hK1:kx (k+1)=K1 at*;generalize kx k=K0 at*;rcases hxk with ⟨rfl,hv⟩ | ⟨rfl,hv⟩
        ·rw [hv] at hho hks1 hbl;have c1:=hcalc a (by omega);have c2:=hdv a;have haI:(a:Int)<(n:Int):=by omega
         generalize hB:bump d a=B at*;generalize d.getD a 0=x at*;refine zJ (stop 16) (zc @e1 (zc @hltI (zc @c1.1 (zc @c1.2 (zc @haI (zc @hiI (zc @A0z (zc @A12 (zc @hdl (zc @XX Qv5)))))))))) Qv5 Qv5 Qv5 ?_;refine AWp.freezeR 11 2 1 n n rfl rfl (A65 B) (A0l B) (by rw [A0e]; exact hbl) (Qk _) (fun r hr=>A1c hr) (A4Z B) ?_;simp only [List.set_cons_succ,List.set_cons_zero];by_cases hmem:B∈K0
         ·rw [decide_eq_true hmem] at hho;have hk1:K1=K0:=by rw [hks1]; exact if_pos hmem
          refine zR Qv5 (zc hho Qv5) Qv5 ?_;rw [<-hk1];refine ⟨0+1,Weak.headF 2 71 [1,2,5,6,7,8,9,10] (zc @hK1 Qv5) (zWs @A0V),?_,?_⟩
          ·omega
          ·omega
         ·rw [decide_eq_false hmem] at hho;have hk1:K1=K0++[B]:=by rw [hks1]; exact if_neg hmem
          have hk2:K1.length=K0.length+1:=by rw [hk1]; simp
          refine zRc (zc @A0i (zc @A2x Qv5)) (zc hho Qv5) @A1F ?_;rw [<-hk1];refine ⟨0+1,Weak.headF 2 71 [1,2,5,6,7,8,9,10] (zc @hK1 (zc @hk2 Qv5)) (zWs @A0V),?_,?_⟩
          ·omega
          ·omega
        ·rw [hv] at hho hks1 hbl;have c1:=hcalc b (by omega);have c2:=hdv b;have haI:(b:Int)<(n:Int):=by omega
         generalize hB:bump d b=B at*;generalize d.getD b 0=x at*;refine zJ (stop 16) (zc @e1 (zc @hltI (zc @c1.1 (zc @c1.2 (zc @haI (zc @hiI (zc @A0z (zc @A12 (zc @hdl (zc @XX Qv5)))))))))) Qv5 Qv5 Qv5 ?_;refine AWp.freezeR 11 2 1 n n rfl rfl (A65 B) (A0l B) (by rw [A0e]; exact hbl) (Qk _) (fun r hr=>A1c hr) (A4Z B) ?_;simp only [List.set_cons_succ,List.set_cons_zero];by_cases hmem:B∈K0
         ·rw [decide_eq_true hmem] at hho;have hk1:K1=K0:=by rw [hks1]; exact if_pos hmem
          refine zR Qv5 (zc hho Qv5) Qv5 ?_;rw [<-hk1];refine ⟨1+1,Weak.headF 2 71 [1,2,5,6,7,8,9,10] (zc @hK1 Qv5) (zWs @A0V),?_,?_⟩
          ·omega
          ·omega
         ·rw [decide_eq_false hmem] at hho;have hk1:K1=K0++[B]:=by rw [hks1]; exact if_neg hmem
          have hk2:K1.length=K0.length+1:=by rw [hk1]; simp
          refine zRc (zc @A0i (zc @A2x Qv5)) (zc hho Qv5) @A1F ?_;rw [<-hk1];refine ⟨1+1,Weak.headF 2 71 [1,2,5,6,7,8,9,10] (zc @hK1 (zc @hk2 Qv5)) (zWs @A0V),?_,?_⟩
          ·omega
          ·omega
       ·have ek:k=2:=by omega
        subst ek;have hnl: ¬(((2:Nat):Int)<2):=by omega
        rw [<-hn2];refine zR (zc @hnl Qv5) Qv5 Qv5 ?_;refine ⟨i+1,Weak.headF 2 71 [1,2,5,6,7,8,9] (zc @hX1 Qv5) (zWs @A0V),?_,?_⟩
        ·exact hil
        ·omega
     ·have hnl: ¬((i:Int)<(O.length:Int)):=by omega
      have ei:i=O.length:=by omega
      subst ei;rw [<-hs];refine zR (zc @hnl (zc @A0i Qv5)) Qv5 Qv5 ?_;refine ⟨e+1,(Weak.untok 5 rfl).trans (Weak.headN 1 71 [1,2,5,6,7] (zWs @A0V)),?_,?_⟩
      ·exact hlt
      ·omega
  ·have hnl: ¬((e:Int)<(L.length:Int)):=by omega
   have ee:e=L.length:=by omega
   rw [ee] at hnl;rw [ee];refine zR (zc @hnl (zc @A0z Qv5)) Qv5 Qv5 ?_;simp [A0s,A0r,Blk.cells,ty,Tryz.results111,A0o,A0p,toT,A0d,A0b,A0c,A0a,A05]
def C51 {g:G} (hl:g.es.length≤40) (hj:A0m g=0):RSm ⟨g.n,g.es,A1d (endsL g.es) g.n.toNat (2*(endsL g.es).length)⟩:=by
 have hc:checkG g=0:=by
  unfold A0m at hj;by_cases h:checkG g=0
  ·exact h
  ·rw [if_pos h] at hj; exact absurd hj h
 have h12:=(A0h.1 hc).1;have hlen:=A2O hl hc;refine ⟨hl,by simp only [A0A]; omega,fun l hm=> ?_⟩;obtain ⟨v,_,rfl⟩:=QY.1 hm;have:=B1B (endsL g.es) (v:Int) (2*(endsL g.es).length);omega
end Go.Proofs.YtdbdfkohpjefjaaGreat
