/- A part of the proof. -/
import Derived.Test.YtdbdfkohpjefjaaGreatPart22
import Derived.Test.YtdbdfkohpjefjaaGreatPart23
import Derived.Test.YtdbdfkohpjefjaaGreatPart21
import Derived.Test.YtdbdfkohpjefjaaGreatPart17
set_option linter.all false
set_option maxHeartbeats 4000000
set_option maxRecDepth 100000
namespace Go.Proofs.YtdbdfkohpjefjaaGreat
open Go.Sp
def A1S (g:G) (a b:Int):Bool:=decide (g.es.length≤40)&&(decide (checkG g≠0)||(decide (g.n≤a)&&decide (((endsL g.es).length:Int)≤b)))
def B6b (g:G) (a b:Int):ACall Tryz.prog 97 [tG g,A0n a,A0n b] (A0x (A1S g a b)):=by
 refine ACall.of_body Tryz.func97 rfl (by kernel_rfl) ?_;simp only [entry,Tryz.ntmps97,tG,A0n];refine zU ?_;by_cases hl:g.es.length≤40
 ·by_cases hc:checkG g=0
  ·have hs:=B6G (g:=g) (by omega) hc;have e:A1S g a b=(decide (g.n≤a)&&decide (((endsL g.es).length:Int)≤b)):=by unfold A1S; rw [decide_eq_true hl,hc,VY,show decide ((0:Int)≠0)=false by decide,Qq3]
   rw [e];by_cases hn:g.n≤a
   ·rw [decide_eq_true hn,VY];refine zM Qv6 (zc @A07 (zc @hc (zc @hn Qv6))) (zc (A6x g (by omega)) (zc (A8g g hs.s hs.es hs.m) Qv6)) Qv6 Qv6 (ed fun hp hpc=>?_);simp [A00,A0z,Blk.cells,ty,Tryz.results97,A0v,A0w,toT,A0d,A0b,A0c,A0a,A0x]
   ·rw [decide_eq_false hn,Qq4];refine zM Qv6 (zc @A07 (zc @hc (zc @hn Qv6))) (zc (A6x g (by omega)) (zc (A8g g hs.s hs.es hs.m) Qv6)) Qv6 Qv6 (ed fun hp hpc=>?_);simp [A00,A0z,Blk.cells,ty,Tryz.results97,A0v,A0w,toT,A0d,A0b,A0c,A0a,A0x]
  ·
   refine zM Qv6 (zc @A07 Qv6) (zc (A6x g (by omega)) Qv6) Qv6 Qv6 (ed fun hp hpc=>?_);have e:A1S g a b=true:=by unfold A1S; rw [decide_eq_true hl,decide_eq_true (show checkG g≠0 from hc)]; rfl
   simp [A00,A0z,Blk.cells,ty,Tryz.results97,A0v,A0w,toT,A0d,A0b,A0c,A0a,A0x,e]
 ·
  refine zR (zc @A07 Qv6) Qv6 Qv6 ?_;have e:A1S g a b=false:=by unfold A1S; rw [decide_eq_false hl]; rfl
  simp [A00,A0z,Blk.cells,ty,Tryz.results97,A0v,A0w,toT,A0d,A0b,A0c,A0a,A0x,e]
def C5i (g:G):ACall Tryz.prog 49 [tG g] (A0x (A1S g 6 9)):=by
 have h:=B6b g 6 9;generalize A1S g 6 9=b at*;obtain ⟨n,es⟩:=g;refine ACall.of_body Tryz.func49 rfl (by kernel_rfl) ?_;simp only [entry,Tryz.ntmps49,tG];refine zU ?_;refine zR Qv6 (zc h Qv6) Qv6 ?_;simp [A00,A0z,Blk.cells,ty,Tryz.results49,A0v,A0w,toT,A0d,A0b,A0c,A0a,A0x]
def C5K (r:R):Bool:=A1S r.g 6 9&&(decide (r.ar.length≤20)&&r.ar.all fun l=>decide (l.length≤40))
def C5j (r:R):ACall Tryz.prog 10 [tR r] (A0x (C5K r)):=by
 have hG:=C5i r.g;unfold C5K;obtain ⟨n,es,ar⟩:=r;simp only [R.g] at hG ⊢;generalize A1S ⟨n,es⟩ 6 9=b at*;refine ACall.of_body Tryz.func10 rfl (by kernel_rfl) ?_;simp only [entry,Tryz.ntmps10,tR];refine zU ?_;cases b with
 | false=>
  rw [Qq4];refine zR Qv6 (zc hG Qv6) Qv6 ?_;simp [A00,A0z,Blk.cells,ty,Tryz.results10,A0v,A0w,toT,A0d,A0b,A0c,A0a,A0x]
 | true=>
  rw [VY];by_cases hl:ar.length≤20
  case neg=>
   have hlI:20<(ar.length:Int):=by omega
   rw [decide_eq_false hl,Qq4];refine zR (zc @A0o (zc @hlI Qv6)) (zc hG Qv6) Qv6 ?_;simp [A00,A0z,Blk.cells,ty,Tryz.results10,A0v,A0w,toT,A0d,A0b,A0c,A0a,A0x]
  have hlI: ¬(20<(ar.length:Int)):=by omega
  rw [decide_eq_true hl,VY];refine zR (zc @A0o (zc @hlI Qv6)) (zc hG Qv6) Qv6 ?_;refine AWp.loopS (α:=Nat) 28 (fun i=>[(1,.c (.ptr 0 0)),(3,.c (.int .i64 (i:Int)))]) (fun i=>[.box [.int .i64 n,.slice (A0f es) .none,.slice (A0u ar) .none]]) (fun i=>i≤ar.length∧ ∀k l,k<i->ar[k]? =some l->l.length≤40) (fun i=>ar.length-i) (0) (hk:=Weak.headL 1 28 [1,3] zW) (h0:=?_) (round:=fun i hI=>?_)
  ·exact ⟨Xw _,fun k l hk=>absurd hk (Nat.not_lt_zero _)⟩
  ·obtain ⟨hi,hI2⟩:=hI;by_cases hlt:i<ar.length
   ·have hltI:(i:Int)<ar.length:=by omega
    have e0:=Qq hlt;have e1:=A0U e0;generalize hx:ar[i]=l at*;by_cases hll:l.length≤40
    ·have hllI: ¬(40<(l.length:Int)):=by omega
     refine zR (zc @hltI (zc @A0o (zc @A0e (zc @e1 (zc @hllI Qv6))))) Qv6 Qv6 ?_;refine ⟨i+1,Weak.headN 1 28 [1,3] zW,?_,?_⟩
     ·refine ⟨hlt,fun k m hk hm=> ?_⟩;by_cases e:k=i
      ·subst e; rw [e0] at hm; cases hm; exact hll
      ·exact hI2 k m (by omega) hm
     ·omega
    ·have hllI:40<(l.length:Int):=by omega
     have e:(ar.all fun l=>decide (l.length≤40))=false:=by
      rw [<-Qx0,Zv];intro h;have:=h l (Qy e0);exact hll (by simpa using this)
     rw [e];refine zR (zc @hltI (zc @A0o (zc @A0e (zc @e1 (zc @hllI Qv6))))) Qv6 Qv6 ?_;simp [A00,A0z,Blk.cells,ty,Tryz.results10,A0v,A0w,toT,A0d,A0b,A0c,A0a,A0x]
   ·have e:(ar.all fun l=>decide (l.length≤40))=true:=by
     rw [Zv];intro l hl2;obtain ⟨k,hk,rfl⟩:=YJ.1 hl2;exact decide_eq_true (hI2 k _ (by omega) (Qq hk))
    rw [e];have hnl: ¬((i:Int)<ar.length):=by omega
    refine zR (zc @hnl (zc @A0o Qv6)) Qv6 Qv6 ?_;simp [A00,A0z,Blk.cells,ty,Tryz.results10,A0v,A0w,toT,A0d,A0b,A0c,A0a,A0x]
def C02 {r:R} (h:C5K r=true):RSm r:=by
 unfold C5K A1S at h;simp only [XJ,decide_eq_true_eq,Zv] at h;exact ⟨h.1.1,by omega,fun l hl=>by have:=h.2.2 l hl; omega⟩
def C2V {b:List Int}:A1R [] b=decide (0<b.length):=by cases b<;>simp [A1R]
def C5k {a:List Int}:A1R a []=false:=by cases a<;>rfl
def C03 (a b:List Int) (ha:a.length<2^40) (hb:b.length<2^40):ACall Tryz.prog 153 [A0q a,A0q b] (A0x (A1R a b)):=by
 refine ACall.of_body Tryz.func153 rfl (by kernel_rfl) ?_;simp only [entry,Tryz.ntmps153,A0q];refine zU ?_;refine zR Qv6 Qv6 Qv6 ?_;refine AWp.loopS (α:=Nat) 41 (fun i=>[(0,.c (.slice (A0p a) .none)),(1,.c (.slice (A0p b) .none)),(5,.c (.int .i64 (i:Int)))]) (fun i=>[]) (fun i=>i≤a.length∧i≤b.length∧A1R a b=A1R (a.drop i) (b.drop i)) (fun i=>a.length-i) (0) (hk:=Weak.headL 0 41 [0,1,5] zW) (h0:=?_) (round:=fun i hI=>?_)
 ·exact ⟨Xw _,Xw _,rfl⟩
 ·obtain ⟨hi,hi2,hx⟩:=hI;by_cases h1:i<a.length
  ·have h1I:(i:Int)<a.length:=by omega
   by_cases h2:i<b.length
   ·have h2I:(i:Int)<b.length:=by omega
    have e0:=Qq h1;have e1:=A0y e0;have f0:=Qq h2;have f1:=A0y f0;rw [Zz h1,Zz h2] at hx;simp only [A1R] at hx;generalize a[i]=x at*;generalize b[i]=y at*;by_cases hxy:x=y
    ·rw [if_pos hxy] at hx;refine zR (zc @h1I (zc @h2I (zc @A0e (zc @e1 (zc @f1 (zc @hxy Qv6)))))) Qv6 Qv6 ?_;refine ⟨i+1,Weak.headN 0 41 [0,1,5] zW,?_,?_⟩
     ·exact ⟨h1,h2,hx⟩
     ·omega
    ·rw [if_neg hxy] at hx;rw [hx];by_cases hlt:x<y
     ·rw [decide_eq_true hlt];refine zR (zc @h1I (zc @h2I (zc @A0e (zc @e1 (zc @f1 (zc @hxy (zc @hlt Qv6))))))) Qv6 Qv6 ?_;simp [A00,A0z,Blk.cells,ty,Tryz.results153,A0v,A0w,toT,A0d,A0b,A0c,A0a,A0x]
     ·rw [decide_eq_false hlt];refine zR (zc @h1I (zc @h2I (zc @A0e (zc @e1 (zc @f1 (zc @hxy (zc @hlt Qv6))))))) Qv6 Qv6 ?_;simp [A00,A0z,Blk.cells,ty,Tryz.results153,A0v,A0w,toT,A0d,A0b,A0c,A0a,A0x]
   ·have h2I: ¬((i:Int)<b.length):=by omega
    have e:A1R a b=false:=by rw [hx,JY (show b.length≤i by omega),C5k]
    have hab: ¬((a.length:Int)<b.length):=by omega
    rw [e];refine zR (zc @h1I (zc @h2I (zc @A0e (zc @hab Qv6)))) Qv6 Qv6 ?_;simp [A00,A0z,Blk.cells,ty,Tryz.results153,A0v,A0w,toT,A0d,A0b,A0c,A0a,A0x]
  ·have h1I: ¬((i:Int)<a.length):=by omega
   have ei:i=a.length:=by omega
   have e:A1R a b=decide (0<(b.drop i).length):=by rw [hx,JY (show a.length≤i by omega),C2V]
   rw [List.length_drop] at e;rw [e];by_cases hab:(a.length:Int)<b.length
   ·rw [decide_eq_true (by omega)];refine zR (zc @h1I (zc @A0e (zc @hab Qv6))) Qv6 Qv6 ?_;simp [A00,A0z,Blk.cells,ty,Tryz.results153,A0v,A0w,toT,A0d,A0b,A0c,A0a,A0x]
   ·rw [decide_eq_false (by omega)];refine zR (zc @h1I (zc @A0e (zc @hab Qv6))) Qv6 Qv6 ?_;simp [A00,A0z,Blk.cells,ty,Tryz.results153,A0v,A0w,toT,A0d,A0b,A0c,A0a,A0x]
def B4N (l:List (List Int)) (i:Nat):(A0u l).take i=A0u (l.take i):=by simp [A0u]
def B4O (l:List (List Int)) (i:Nat):(A0u l).drop i=A0u (l.drop i):=by simp [A0u]
def B0P {A:List (List Int)} {x:List Int} {r:List Tree} (h:r∈A0u A++[[Tree.slice (A0p x)]]):r.length=1:=by
 rcases XY.1 h with h | h
 ·exact A3l h
 ·rw [Zq.1 h]; rfl
def B7z (l:List (List Int)) (hl:l.length<2^30) (hll: ∀x,x∈l->x.length<2^40):ACall Tryz.prog 104 [A0S l] (A0S (sortLL l)):=by
 have hz:sortLL ([]:List (List Int))=[]:=List.Perm.eq_nil (A1q []);refine ACall.of_body Tryz.func104 rfl (by kernel_rfl) ?_;simp only [entry,Tryz.ntmps104,A0S];refine zU ?_;refine zJ (stop 2) trivial trivial trivial trivial ?_;refine AWp.weak (Weak.opens ((fun t f=>[f,f,f,t,f,f,f,f,f,f,f,f,f,f,f,f,f,f,f,f,f,f,f,f,f,f,f,f,f,f,f,f,f,f,f,f,f,f,f,f,f,f,f,f,f,f,f,f]) true false) 1 (by first | omega | simp)) ?_;simp only [A2F,A8H,List.length_cons,List.length_nil,Xv,Nat.reduceAdd,List.cons_append,List.nil_append];refine AWp.weak (Weak.untok 3 rfl) ?_;simp only [List.set_cons_succ,List.set_cons_zero];refine zR Qv6 Qv6 Qv6 ?_;refine AWp.loopS (α:=(Nat×List (List Int))) 48 (fun s=>[(0,.c (.slice (A0u l) .none)),(3,.c (.slice (A0u s.2) .none)),(4,.c (.int .i64 (s.1:Int)))]) (fun s=>[]) (fun s=>s.1≤l.length∧s.2=sortLL (l.take s.1)) (fun s=>l.length-s.1) ((0,[])) (hk:=Weak.headL 0 48 [0,3,4] zW) (h0:=?_) (round:=fun s hI=>?_)
 ·exact ⟨Xw _,hz.symm⟩
 ·obtain ⟨i,S⟩:=s;obtain ⟨hi,hS⟩:=hI;simp only at hi hS ⊢;have hSl:S.length=i:=by rw [hS,(A1q _).length_eq,YV]; omega
  have hSm: ∀y,y∈S->y.length<2^40:=fun y hy=>by
   rw [hS] at hy;exact hll y (Vy ((A1q _).mem_iff.1 hy))
  by_cases hlt:i<l.length
  ·have hltI:(i:Int)<(l.length:Int):=by omega
   have e0:=Qq hlt;have e1:=A0U e0;have hxl:=hll _ (Xk hlt);have hsn:=XZ hlt;generalize l[i]=x at*;have hins:=fun k hk h1 h2=>C0l (x:=x) (k:=k) hS hk h1 h2;rw [<-hsn] at hins;clear hS;refine zR (zc @hltI (zc @A0o Qv6)) Qv6 Qv6 ?_;refine AWp.loopS (α:=Nat) 48 (fun k=>[(0,.c (.slice (A0u l) .none)),(3,.c (.slice (A0u S) .none)),(4,.c (.int .i64 (i:Int))),(5,.c (.int .i64 (k:Int)))]) (fun k=>[]) (fun k=>k≤S.length∧ ∀j y,k≤j->S[j]? =some y->A1R x y=true) (fun k=>k) (S.length) (hk:=Weak.headL 0 48 [0,3,4,5] zW) (h0:=?_) (round:=fun k hI=>?_)
   ·exact ⟨QQ _,fun j y hj hy=>by rw [Xx hj] at hy; cases hy⟩
   ·obtain ⟨hk,hgt⟩:=hI;have hkI:(k:Int)≤(S.length:Int):=by omega
    have hd:(A0u S).drop k=A0u (S.drop k):=B4O S _;have ht:(A0u S).take k=A0u (S.take k):=B4N S _;have hta:(A0u S).take S.length=A0u S:=ZZ (by rw [A0o]; exact QQ _);have hcat:A0u (S.take k)++[[Tree.slice (A0p x)]]++A0u (S.drop k)=A0u (S.take k++[x]++S.drop k):=by simp [A0u]
    have hlA:(S.take k).length=k:=by rw [YV]; omega
    have hdl:((A0u S).drop k).length=S.length-k:=by rw [List.length_drop,A0o]
    have hlB:(S.drop k).length=S.length-k:=List.length_drop ..;cases k with
    | zero=>
     have hi2:=hins 0 hk hgt (fun j y hj=>by omega);rw [hi2] at hcat;generalize hA:S.take 0=A at*;generalize hB:S.drop 0=B at*;generalize hS2:sortLL (l.take (i+1))=S2 at*;refine zMc Qv6 (zc @e1 (zc @A0o (zc @hkI (zc @hltI (zc @hd (zc @ht (zc @hta (zc @hcat (zc @hlA (zc @hlB (zc @hdl (zc @Yk Qv6)))))))))))) Qv6 Qv6 (zc @A3l (zc @B0P Qv6)) (ed fun hp hpc=>?_);refine ⟨(i+1,S2),(Weak.untok 3 rfl).trans (Weak.headN 0 48 [0,3,4] zW),?_,?_⟩
     ·exact ⟨hlt,hS2.symm⟩
     ·simp only; omega
    | succ j=>
     have hj1:((j+1:Nat):Int)-1=(j:Int):=by omega
     have hj2:(0:Int)<((j+1:Nat):Int):=by omega
     have hj3:(j:Int)<(S.length:Int):=by omega
     have f0:=Qq (show j<S.length by omega);have f1:=A0U f0;have hBf:=C03 x S[j] hxl (hSm _ (Xk _));generalize S[j]=y at*;cases hxy:A1R x y with
     | true=>
      rw [hxy] at hBf;refine zR (zc @e1 (zc @f1 (zc @hj1 (zc @hj2 (zc @hj3 (zc @hltI (zc @A0o Qv6))))))) (zc hBf Qv6) Qv6 ?_;refine ⟨j,Weak.headN 0 48 [0,3,4,5] zW,?_,?_⟩
      ·refine ⟨by omega,fun q z hq hz=> ?_⟩;by_cases e:q=j
       ·subst e; rw [f0] at hz; cases hz; exact hxy
       ·exact hgt q z (by omega) hz
      ·omega
     | false=>
      have hi2:=hins (j+1) hk hgt (fun q z hq hz=>by
       have:q=j:=by omega
       subst this; rw [f0] at hz; cases hz; exact hxy)
      rw [hi2] at hcat;rw [hxy] at hBf;generalize hA:S.take (j+1)=A at*;generalize hB:S.drop (j+1)=B at*;generalize hS2:sortLL (l.take (i+1))=S2 at*;refine zMc Qv6 (zc @e1 (zc @f1 (zc @hj1 (zc @hj2 (zc @hj3 (zc @A0o (zc @hkI (zc @hltI (zc @hd (zc @ht (zc @hta (zc @hcat (zc @hlA (zc @hlB (zc @hdl (zc @Yk Qv6)))))))))))))))) (zc hBf Qv6) Qv6 (zc @A3l (zc @B0P Qv6)) (ed fun hp hpc=>?_);refine ⟨(i+1,S2),(Weak.untok 3 rfl).trans (Weak.headN 0 48 [0,3,4] zW),?_,?_⟩
      ·exact ⟨hlt,hS2.symm⟩
      ·simp only; omega
  ·have ei:i=l.length:=by omega
   have hnl: ¬((i:Int)<(l.length:Int)):=by omega
   rw [ei,Zy] at hS;rw [<-hS];refine zR (zc @hnl (zc @A0o Qv6)) Qv6 Qv6 ?_;simp [A00,A0z,Blk.cells,ty,Tryz.results104,A0v,A0w,toT,A0d,A0b,A0c,A0a,A0S]
def B1K (w v:Nat):Nat:=w / 2^v
def B70 (w v:Nat):B1K w (v+1)=B1K w v / 2:=by unfold B1K; rw [Nat.pow_succ,Nat.div_div_eq_div_mul]
def C7z (w:Nat):Int.tmod (w:Int) 2=((w%2:Nat):Int):=rfl
def C70 (w:Nat):Int.tdiv (w:Int) 2=((w / 2:Nat):Int):=rfl
def C5l (n w:Nat) (hn:n≤60) (hw:w<2^40):ACall Tryz.prog 103 [A0n n,A0n w] (A0q (zI (setN n w))):=by
 refine ACall.of_body Tryz.func103 rfl (by kernel_rfl) ?_;simp only [entry,Tryz.ntmps103,A0n];refine zU ?_;refine zR Qv6 Qv6 Qv6 ?_;refine AWp.weak (Weak.opens ((fun t f=>[f,f,f,f,f,t,f,f,f,f,f,f,f,f,f,f,f,f,f,f,f,f]) true false) 1 (by first | omega | simp)) ?_;simp only [A2F,A8H,List.length_cons,List.length_nil,Xv,Nat.reduceAdd,List.cons_append,List.nil_append];rw [show (w:Int)=(B1K w 0:Int) by unfold B1K; simp];refine AWp.loopS (α:=Nat) 22 (fun v=>[(0,.c (.int .i64 (n:Int))),(1,.c (.int .i64 (B1K w v:Int))),(5,.c (.slice (A0p (zI (setN v w))) (.chain 0))),(6,.c (.int .i64 (v:Int)))]) (fun v=>[.chain (setN v w).length 1]) (fun v=>v≤n) (fun v=>n-v) (0) (hk:=Weak.headL 1 22 [0,1,5,6] zW) (h0:=?_) (round:=fun v hI=>?_)
 ·exact Xw _
 ·have hv:v≤n:=hI;clear hI;by_cases hvl:v<n
  ·have hvI:(v:Int)<(n:Int):=by omega
   have hss:=A6J v w;have hsl2:=A55 v w;have hwv:B1K w v≤w:=Nat.div_le_self _ _;have hdv:=B70 w v;have hb:B3g w v=B1K w v%2:=rfl;rw [hb] at hss;generalize B1K w v=wv at*;have m1:=C7z wv;have m2:=C70 wv;by_cases hp:wv%2=1
   ·rw [if_pos hp] at hss;have hpI:((wv%2:Nat):Int)=1:=by omega
    have hzs:=B43 (setN v w) v;rw [<-hss] at hzs;have hln:(setN (v+1) w).length=(setN v w).length+1:=by rw [hss]; simp
    generalize setN v w=d at*;refine zMc Qv6 (zc @hvI (zc @m1 (zc @m2 (zc @hpI (zc @A0e (zc @A2v (zc @A3C Qv6))))))) Qv6 Qv6 @A1v (ed fun hp hpc=>?_);rw [hzs];refine ⟨v+1,Weak.headF 1 22 [0,1,5,6] (zc @hln (zc @hdv Qv6)) zW,?_,?_⟩
    ·exact hvl
    ·omega
   ·rw [if_neg hp] at hss;have hpI: ¬((wv%2:Nat):Int)=1:=by omega
    refine zM Qv6 (zc @hvI (zc @m1 (zc @m2 (zc @hpI (zc @A0e (zc @A3C Qv6)))))) Qv6 Qv6 Qv6 (ed fun hp hpc=>?_);rw [<-hss];refine ⟨v+1,Weak.headF 1 22 [0,1,5,6] (zc @hdv Qv6) zW,?_,?_⟩
    ·exact hvl
    ·omega
  ·have hnl: ¬(v:Int)<(n:Int):=by omega
   have ev:v=n:=by omega
   subst ev;refine zR (zc @hnl Qv6) Qv6 Qv6 ?_;simp [A00,A0z,Blk.cells,ty,Tryz.results103,A0v,A0w,toT,A0d,A0b,A0c,A0a,A0q]
def B1L: ∀(a b:List Int),A1R a b=true↔A1M a b<0
 | [],[]=>by simp [A1R,A1M]
 | [],_::_=>by simp [A1R,A1M]
 | _::_,[]=>by simp [A1R,A1M]
 | x::a,y::b=>by
  have ih:=B1L a b;have h1:=A9w (x:=x) (y:=y);have h2:=C2x (x:=x) (y:=y);show (if x=y then A1R a b else decide (x<y))=true↔(if A6e x y=0 then A1M a b else A6e x y)<0;by_cases h:x=y
  ·rw [if_pos h,if_pos (h1.2 h)]; exact ih
  ·rw [if_neg h,if_neg (fun q=>h (h1.1 q)),decide_eq_true_eq]; exact h2.symm
def B71 (g:G) (hl:g.es.length≤40):ACall Tryz.prog 78 [tG g] (A0n (A0t g)):=by
 have hC:=A3D g (by omega);by_cases hc:checkG g=0
 ·rw [hc] at hC;cases hb:connB g with
  | false=>
   have e:A0t g=13:=by unfold A0t; rw [if_neg (fun q=>q hc),if_neg (by rw [hb]; simp)]
   rw [e];rw [hb] at hC;obtain ⟨n,es⟩:=g;have hC2:ACall Tryz.prog 129 [tG ⟨n,es⟩] (.tup [A0x false,A0n 0]):=hC;refine ACall.of_body Tryz.func78 rfl (by kernel_rfl) ?_;simp only [entry,Tryz.ntmps78,tG];refine zU ?_;refine zR Qv6 (zc hC2 Qv6) Qv6 ?_;simp [A00,A0z,Blk.cells,ty,Tryz.results78,A0v,A0w,toT,A0d,A0b,A0c,A0a,A0n]
  | true=>
   have e:A0t g=0:=by unfold A0t; rw [if_neg (fun q=>q hc),if_pos hb]
   rw [e];rw [hb] at hC;obtain ⟨n,es⟩:=g;have hC2:ACall Tryz.prog 129 [tG ⟨n,es⟩] (.tup [A0x true,A0n 0]):=hC;refine ACall.of_body Tryz.func78 rfl (by kernel_rfl) ?_;simp only [entry,Tryz.ntmps78,tG];refine zU ?_;refine zR Qv6 (zc hC2 Qv6) Qv6 ?_;simp [A00,A0z,Blk.cells,ty,Tryz.results78,A0v,A0w,toT,A0d,A0b,A0c,A0a,A0n]
 ·have e:A0t g=checkG g:=if_pos hc;have hC2:ACall Tryz.prog 129 [tG g] (.tup [A0x false,A0n (checkG g)]):=by
   rw [decide_eq_false hc] at hC; exact hC
  rw [e];clear hC;generalize checkG g=er at*;obtain ⟨n,es⟩:=g;refine ACall.of_body Tryz.func78 rfl (by kernel_rfl) ?_;simp only [entry,Tryz.ntmps78,tG];refine zU ?_;refine zR (zc @hc Qv6) (zc hC2 Qv6) Qv6 ?_;simp [A00,A0z,Blk.cells,ty,Tryz.results78,A0v,A0w,toT,A0d,A0b,A0c,A0a,A0n]
noncomputable def indW (g:G) (w:Nat):G:=B7O g (zI (setN g.n.toNat w))
noncomputable def C04 (g:G) (w:Nat):Bool:=connB (indW g w)
noncomputable def A5h (g:G) (k:Nat):List Nat:=((List.range k).map (·+1)).filter (C04 g)
noncomputable def itS (g:G) (k:Nat):List (List TVal):=(A5h g k).map fun w=>[A0q (zI (setN g.n.toNat w)),A0n (C1l (endsL (indW g w).es))]
def A76 (g:G) (k:Nat):A5h g (k+1)=if C04 g (k+1)=true then A5h g k++[k+1] else A5h g k:=by
 unfold A5h;rw [WX,WY,JV];cases h:C04 g (k+1)<;>simp [h]
def C05 (g:G) (k:Nat):(itS g k).length=(A5h g k).length:=by simp [itS]
def C5m (g:G) {k m:Nat} (h:k≤m): ∃r,A5h g m=A5h g k++r:=by
 obtain ⟨d,rfl⟩: ∃d,m=k+d:=⟨m-k,by omega⟩;clear h
 induction d with
 | zero=>exact ⟨[],by simp⟩
 | succ d ih=>
  obtain ⟨r,hr⟩:=ih;rw [<-Wv,A76,hr];split
  ·exact ⟨r++[k+d+1],by simp⟩
  ·exact ⟨r,rfl⟩
def C5n (g:G) {k m:Nat} (h:k+1≤m) (hc:C04 g (k+1)=true):(itS g m)[(A5h g k).length]? =some [A0q (zI (setN g.n.toNat (k+1))),A0n (C1l (endsL (indW g (k+1)).es))]:=by
 obtain ⟨r,hr⟩:=C5m g h;have hs:=A76 g k;rw [if_pos hc] at hs;unfold itS;rw [QW,hr,hs,Zk,QV (QQ _),Jz];rfl
def C5o {g:G} {m k:Nat} {ts:List TVal} (h:(itS g m)[k]? =some ts): ∃w,(A5h g m)[k]? =some w∧ts=[A0q (zI (setN g.n.toNat w)),A0n (C1l (endsL (indW g w).es))]:=by
 unfold itS at h;rw [QW] at h;cases hx:(A5h g m)[k]? with
 | none=>rw [hx] at h; cases h
 | some w=>rw [hx] at h; exact ⟨w,rfl,(JX h).symm⟩
structure IndOk (g:G):Prop where
 ind: ∀w,1≤w->w<2^g.n.toNat->indE g (zI (setN g.n.toNat w))=0
 chk: ∀w,1≤w->w<2^g.n.toNat->checkG (indW g w)=0
 len: ∀w,1≤w->w<2^g.n.toNat->(indW g w).es.length≤40
def B4P (g:G) (hI:IndOk g) (h1:1≤g.n∧g.n≤12) (hl:g.es.length≤40):AIter Tryz.prog 155 [.rptr [.int .i64 g.n,.slice (A0f g.es)]] (itS g (2^g.n.toNat-1)):=by
 obtain ⟨n,hn⟩:=XV (show 0≤g.n by omega);have hn12:n≤12:=by omega
 have hpw:=C7s hn12;have hsl:=C7G n hn12;have hgn:g.n.toNat=n:=by omega
 have hget:=fun k h hc=>C5n g (k:=k) (m:=2^g.n.toNat-1) h hc;have hlenI:=C05 g (2^g.n.toNat-1);have hsu:=A76 g;have hs0:(A5h g 0).length=0:=rfl;have hi:=hI.ind;have hck:=hI.chk;have hil:=hI.len;have hind:=fun w=>B6N g (zI (setN g.n.toNat w)) (by omega) (by rw [A3C]; have:=A55 g.n.toNat w; omega);have hdW: ∀w,B7O g (zI (setN g.n.toNat w))=indW g w:=fun _=>rfl;have hcw: ∀w,C04 g w=connB (indW g w):=fun _=>rfl;simp only [hdW] at hind;rw [hgn] at*;generalize itS g (2^n-1)=xs at*;generalize C04 g=cW at*;generalize A5h g=sW at*;generalize indW g=iW at*;clear hI hdW;obtain ⟨nI,es⟩:=g;simp only at hn hl h1 ⊢;subst hn;have hn0:0≤(n:Int):=by omega
 have hr1:(-9223372036854775808:Int)≤((2^n:Nat):Int)∧((2^n:Nat):Int)≤9223372036854775807:=by omega
 refine AIter.of_body Tryz.func155 rfl (by kernel_rfl) rfl (fun l J Jx hJ hJx hY=> ?_);simp only [entry,Tryz.ntmps155,ofT,A3u,A02,XQ,ZX,List.length_cons,List.length_nil,Nat.reduceAdd,Nat.reduceSub,List.replicate_succ,List.replicate_zero,List.cons_append,List.nil_append];refine zR Qv6 Qv6 Qv6 ?_;generalize hP:2^n=P at*;rw [show J 0=J (sW 0).length by rw [hs0]];refine AWp.loopS (α:=Nat) 59 (fun k=>[(0,.c (.yld l)),(1,.c (.rptr [.int .i64 (n:Int),.slice (A0f es)])),(3,.c (.int .i64 ((k+1:Nat):Int)))]) (fun k=>[.ghost (J (sW k).length)]) (fun k=>k+1≤P) (fun k=>P-k) (0) (hk:=Weak.headL 1 59 [0,1,3] zW) (h0:=?_) (round:=fun k hI=>?_)
 ·omega
 ·have hk:k+1≤P:=hI;clear hI;by_cases hkl:k+1<P
  ·have hkI:((k+1:Nat):Int)<(P:Int):=by omega
   have hind1:=hind (k+1);rw [hi (k+1) (by omega) hkl] at hind1;have hck1:=hck (k+1) (by omega) hkl;have hil1:=hil (k+1) (by omega) hkl;have hC:=A3D (iW (k+1)) (by omega);rw [hck1] at hC;have hG:=C2b (iW (k+1)) (by omega);rw [hck1,if_neg (by decide)] at hG;have hcw1:=hcw (k+1);have hsu1:=hsu k;have hget1:=hget k (by omega);generalize hw:k+1=w at*;have hwb:w<2^40:=by omega
   have hz0:zI (setN 0 w)=[]:=rfl;refine zJ (stop 5) (zc @hkI (zc @hsl (zc @hn0 Qv6))) Qv6 Qv6 Qv6 ?_;refine AWp.weak (Weak.opens ((fun t f=>[f,f,f,f,t,f,f,f,f,f,f,f,f,f,f,f,f,f,f,f,f,f,f,f,f,f,f,f,f,f,f,f,f,f,f,f,f,f,f,f,f,f,f,f,f,f,f,f,f,f,f,f,f,f,f,f,f,f,f]) true false) 1 (by first | omega | simp)) ?_;simp only [A2F,A8H,List.length_cons,List.length_nil,Xv,Nat.reduceAdd,List.cons_append,List.nil_append];refine AWp.loopS (α:=Nat) 59 (fun v=>[(0,.c (.yld l)),(1,.c (.rptr [.int .i64 (n:Int),.slice (A0f es)])),(3,.c (.int .i64 (w:Int))),(4,.c (.slice (A0p (zI (setN v w))) (.chain 1))),(20,.c (.int .i64 (n:Int))),(21,.c (.int .i64 (v:Int)))]) (fun v=>[.ghost (J (sW k).length),.chain (setN v w).length 1]) (fun v=>v≤n) (fun v=>n-v) (0) (hk:=Weak.headL 2 59 [0,1,3,4,20,21] zW) (h0:=?_) (round:=fun v hI=>?_)
   ·exact Xw _
   ·have hv:v≤n:=hI;clear hI;by_cases hvl:v<n
    ·have hvI:(v:Int)<(n:Int):=by omega
     have hv0:0≤(v:Int):=by omega
     have hss:=A6J v w;have hsl2:=A55 v w;have hsh:=C7E w v (by omega);have hdl:w / 2^v≤w:=Nat.div_le_self _ _;have han:=C7F (w / 2^v) (by omega);have hb:B3g w v=w / 2^v%2:=rfl;rw [hb] at hss;generalize w / 2^v=x at*;by_cases hp:x%2=1
     ·rw [if_pos hp] at hss;have hpI:((x%2:Nat):Int)=1:=by omega
      have hzs:=B43 (setN v w) v;rw [<-hss] at hzs;have hln:(setN (v+1) w).length=(setN v w).length+1:=by rw [hss]; simp
      generalize setN v w=d at*;refine zRc (zc @hvI (zc @hv0 (zc @hsh (zc @han (zc @hpI (zc @A0e (zc @A2v (zc @A3C Qv6)))))))) Qv6 @A1v ?_;rw [hzs];refine ⟨v+1,Weak.headF 2 59 [0,1,3,4,20,21] (zc @hln Qv6) zW,?_,?_⟩
      ·exact hvl
      ·omega
     ·rw [if_neg hp] at hss;have hpI: ¬((x%2:Nat):Int)=1:=by omega
      refine zR (zc @hvI (zc @hv0 (zc @hsh (zc @han (zc @hpI (zc @A0e (zc @A3C Qv6))))))) Qv6 Qv6 ?_;rw [<-hss];refine ⟨v+1,Weak.headN 2 59 [0,1,3,4,20,21] zW,?_,?_⟩
      ·exact hvl
      ·omega
    ·have hnl: ¬(v:Int)<(n:Int):=by omega
     have ev:v=n:=by omega
     rw [ev];rw [ev] at hnl;cases hcb:cW w with
     | false=>
      rw [<-hcw1,hcb,show (decide ((0:Int)=0)&&false)=false from rfl] at hC;rw [hcb] at hsu1;simp only [Yk,if_false] at hsu1;generalize iW w=H at*;obtain ⟨hn',hes⟩:=H;refine zR (zc @hnl Qv6) (zc hind1 (zc hC Qv6)) Qv6 ?_;rw [<-hsu1];refine ⟨w,Weak.headN 1 59 [0,1,3] zW,?_,?_⟩
      ·exact hkl
      ·omega
     | true=>
      rw [<-hcw1,hcb,show (decide ((0:Int)=0)&&true)=true from rfl] at hC;rw [hcb,if_pos rfl] at hsu1;have hg2:=hget1 hcb;have hsl3:(sW w).length=(sW k).length+1:=by rw [hsu1]; simp
      generalize iW w=H at*;obtain ⟨hn',hes⟩:=H;simp only at hg2 hG;generalize C1l (endsL hes)=gen at*;refine zM (zc Qv6 (prt 15 3)) (zc @hnl Qv6) (zc hind1 (zc hC (zc hG Qv6))) Qv6 Qv6 (ed fun hp hpc=>?_);simp only [Zw,ZY];refine AReg.yield rfl rfl rfl (by rfl) (by with_unfolding_all rfl) (by simp [okBlk]) (hY _ _ hg2) (hJ _) hJx ?_ ?_<;>(try refine zS ?_)<;>refine AReg.rest (fun K hK=> ?_)
      ·
       rw [<-hsl3];refine zM trivial trivial trivial trivial trivial (ed fun hp hpc=>?_);refine ⟨w,Weak.headN 1 59 [0,1,3] zW,?_,?_⟩
       ·exact hkl
       ·omega
      ·
       refine zM trivial trivial trivial trivial trivial (ed fun hp hpc=>?_);exact ⟨Qv4,_,.inr rfl⟩
  ·have hnl: ¬((k+1:Nat):Int)<(P:Int):=by omega
   have ek:k=P-1:=by omega
   refine zR (zc @hnl (zc @hsl (zc @hn0 Qv6))) Qv6 Qv6 ?_;exact ⟨Qv4,_,.inl (by rw [hlenI,ek])⟩
variable {d:List Int}
def C06 {i:Nat} (h:i<d.length):d.getD i 0=d[i]:=by
 rw [Qz,Qq h]; rfl
def inD (k:Int):Bool:=decide (-1048576≤k∧k≤1048576)
def B7U (d:List Int) (n:Int):Int:=if n<1∨12<n then 2 else if (d.length:Int)≠n then 8 else if d.all inD=true then 0 else 2
def C5p {n:Nat} (h:B7U d n=0):1≤n∧n≤12∧d.length=n∧bndL 1048576 d:=by
 unfold B7U at h;split at h
 ·cases h
 ·split at h
  ·cases h
  ·split at h
   ·rename_i h1 h2 h3;refine ⟨by omega,by omega,by omega,fun v=> ?_⟩;by_cases hv:v<d.length
    ·rw [C06 hv];have:=Zv.1 h3 _ (Xk hv);unfold inD at this;simpa using this
    ·rw [Qz,Xx (by omega)]; simp
   ·cases h
def C07 (k:Int):ACall Tryz.prog 107 [A0n k] (A0x (inD k)):=by
 unfold inD;by_cases h1: -1048576≤k
 ·by_cases h2:k≤1048576
  ·have h3:k≥ -1048576:=h1;rw [decide_eq_true ⟨h1,h2⟩];refine ACall.of_body Tryz.func107 rfl (by kernel_rfl) ?_;simp only [entry,Tryz.ntmps107,A0n];refine zU ?_;refine zR (zc @h3 (zc @h2 Qv6)) Qv6 Qv6 ?_;simp [A00,A0z,Blk.cells,ty,Tryz.results107,A0v,A0w,toT,A0d,A0b,A0c,A0a,A0x]
  ·have h3:k≥ -1048576:=h1;rw [decide_eq_false (fun h=>h2 h.2)];refine ACall.of_body Tryz.func107 rfl (by kernel_rfl) ?_;simp only [entry,Tryz.ntmps107,A0n];refine zU ?_;refine zR (zc @h3 (zc @h2 Qv6)) Qv6 Qv6 ?_;simp [A00,A0z,Blk.cells,ty,Tryz.results107,A0v,A0w,toT,A0d,A0b,A0c,A0a,A0x]
 ·have h3: ¬k≥ -1048576:=h1;rw [decide_eq_false (fun h=>h1 h.1)];refine ACall.of_body Tryz.func107 rfl (by kernel_rfl) ?_;simp only [entry,Tryz.ntmps107,A0n];refine zU ?_;refine zR (zc @h3 Qv6) Qv6 Qv6 ?_;simp [A00,A0z,Blk.cells,ty,Tryz.results107,A0v,A0w,toT,A0d,A0b,A0c,A0a,A0x]
def B4Q (n:Int):ACall Tryz.prog 106 [A0n n] (A0n (if n<1∨12<n then 2 else 0)):=by
 by_cases h1:n<1
 ·rw [if_pos (.inl h1)];refine ACall.of_body Tryz.func106 rfl (by kernel_rfl) ?_;simp only [entry,Tryz.ntmps106,A0n];refine zU ?_;refine zR (zc @h1 Qv6) Qv6 Qv6 ?_;simp [A00,A0z,Blk.cells,ty,Tryz.results106,A0v,A0w,toT,A0d,A0b,A0c,A0a,A0n]
 ·by_cases h2:n>12
  ·rw [if_pos (.inr h2)];refine ACall.of_body Tryz.func106 rfl (by kernel_rfl) ?_;simp only [entry,Tryz.ntmps106,A0n];refine zU ?_;refine zR (zc @h1 (zc @h2 Qv6)) Qv6 Qv6 ?_;simp [A00,A0z,Blk.cells,ty,Tryz.results106,A0v,A0w,toT,A0d,A0b,A0c,A0a,A0n]
  ·rw [if_neg (by omega)];refine ACall.of_body Tryz.func106 rfl (by kernel_rfl) ?_;simp only [entry,Tryz.ntmps106,A0n];refine zU ?_;refine zR (zc @h1 (zc @h2 Qv6)) Qv6 Qv6 ?_;simp [A00,A0z,Blk.cells,ty,Tryz.results106,A0v,A0w,toT,A0d,A0b,A0c,A0a,A0n]
def C5q {i:Nat} (h: ∀j,j<i->inD (d.getD j 0)=true) (hi:i=d.length):d.all inD=true:=by
 rw [Zv];intro x hx;obtain ⟨j,hj,rfl⟩:=YJ.1 hx;have:=h j (by omega);rwa [C06 hj] at this
def C5r {i:Nat} (hi:i<d.length) (h:inD (d.getD i 0)=false): ¬d.all inD=true:=fun ha=>by
 have:=Zv.1 ha _ (Xk hi);rw [C06 hi,this] at h;cases h
def B3r (d:List Int) (n:Int) (hdl:d.length<2^40):ACall Tryz.prog 63 [A0q d,A0n n] (A0n (B7U d n)):=by
 have hV:=B4Q n;unfold B7U;by_cases h1:n<1∨12<n
 ·rw [if_pos h1] at hV ⊢;refine ACall.of_body Tryz.func63 rfl (by kernel_rfl) ?_;simp only [entry,Tryz.ntmps63,A0q,A0n];refine zU ?_;refine zR Qv6 (zc hV Qv6) Qv6 ?_;simp [A00,A0z,Blk.cells,ty,Tryz.results63,A0v,A0w,toT,A0d,A0b,A0c,A0a,A0n]
 rw [if_neg h1] at hV ⊢;by_cases hd:(d.length:Int)=n
 case neg=>
  rw [if_pos hd];refine ACall.of_body Tryz.func63 rfl (by kernel_rfl) ?_;simp only [entry,Tryz.ntmps63,A0q,A0n];refine zU ?_;refine zR (zc @A0e (zc @hd Qv6)) (zc hV Qv6) Qv6 ?_;simp [A00,A0z,Blk.cells,ty,Tryz.results63,A0v,A0w,toT,A0d,A0b,A0c,A0a,A0n]
 rw [if_neg (by omega)];subst hd;refine ACall.of_body Tryz.func63 rfl (by kernel_rfl) ?_;simp only [entry,Tryz.ntmps63,A0q,A0n];refine zU ?_;refine zJ (stop 7) (zc @A0e Qv6) (zc hV Qv6) Qv6 Qv6 ?_;refine AWp.loopS (α:=Nat) 27 (fun i=>[(17,.c (.slice (A0p d) .none)),(18,.c (.int .i64 (d.length:Int))),(19,.c (.int .i64 (i:Int)))]) (fun i=>[]) (fun i=>i≤d.length∧ ∀j,j<i->inD (d.getD j 0)=true) (fun i=>d.length-i) (0) (hk:=Weak.headL 0 27 [17,18,19] zW) (h0:=?_) (round:=fun i hI=>?_)
 ·exact ⟨Xw _,fun j hj=>by omega⟩
 ·obtain ⟨hi,hpre⟩:=hI;by_cases hil:i<d.length
  ·have hiI:(i:Int)<(d.length:Int):=by omega
   have hg:=A0y (A13 (d:=d) (i:=i) hil);have hw:=C07 (d.getD i 0);cases hin:inD (d.getD i 0) with
   | false=>
    rw [if_neg (C5r hil hin)];rw [hin] at hw;clear hpre hin;generalize d.getD i 0=x at*;refine zR (zc @hiI (zc @hg (zc @A0e (zc @XX Qv6)))) (zc hw Qv6) Qv6 ?_;simp [A00,A0z,Blk.cells,ty,Tryz.results63,A0v,A0w,toT,A0d,A0b,A0c,A0a,A0n]
   | true=>
    have hp2: ∀j,j<i+1->inD (d.getD j 0)=true:=fun j hj=>by
     by_cases e:j=i
     ·rw [e]; exact hin
     ·exact hpre j (by omega)
    rw [hin] at hw;clear hpre hin;generalize d.getD i 0=x at*;refine zR (zc @hiI (zc @hg (zc @A0e (zc @XX Qv6)))) (zc hw Qv6) Qv6 ?_;refine ⟨i+1,Weak.headN 0 27 [17,18,19] zW,?_,?_⟩
    ·exact ⟨hil,hp2⟩
    ·omega
  ·have hnl: ¬(i:Int)<(d.length:Int):=by omega
   rw [if_pos (C5q hpre (by omega))];refine zR (zc @hnl Qv6) Qv6 Qv6 ?_;simp [A00,A0z,Blk.cells,ty,Tryz.results63,A0v,A0w,toT,A0d,A0b,A0c,A0a,A0n]
def B6c {n w:Nat} {x:Int}:x∈zI (setN n w)↔ ∃a:Nat,x=a∧a<n∧B3g w a=1:=by
 unfold zI setN;rw [QJ];constructor
 ·rintro ⟨a,ha,rfl⟩;rw [Yq,Xy,decide_eq_true_eq] at ha;exact ⟨a,rfl,ha.1,ha.2⟩
 ·rintro ⟨a,rfl,h1,h2⟩;exact ⟨a,by rw [Yq,Xy,decide_eq_true_eq]; exact ⟨h1,h2⟩,rfl⟩
structure FewF (g:G):Prop where
 es:g.es.length≤40
 sz:checkG g=0->g.n≤6∧(endsL g.es).length≤9
def A8a (p:Nat->Bool):Nat->Nat
 | 0=>0
 | n+1=>(if p n=true then 2^n else 0)+A8a p n
def A8u (p:Nat->Bool): ∀n,A8a p n<2^n
 | 0=>by simp [A8a]
 | n+1=>by
  have:=A8u p n;unfold A8a;rw [Nat.pow_succ];split<;>omega
def A4c (w v:Nat):B3g w v=1↔w.testBit v=true:=by
 unfold B3g;rw [Nat.testBit_eq_decide_div_mod_eq,decide_eq_true_eq]
def A2X (p:Nat->Bool): ∀n v,v<n->(A8a p n).testBit v=p v
 | 0,v,h=>by omega
 | n+1,v,h=>by
  have hl:=A8u p n;unfold A8a;by_cases e:v=n
  ·subst e;cases hp:p v with
   | true=>rw [if_pos rfl,Nat.testBit_two_pow_add_eq,Qx9 hl]; rfl
   | false=>rw [if_neg (by simp),XX,Qx9 hl]
  ·have ih:=A2X p n v (by omega);split
   ·rw [Nat.testBit_two_pow_add_gt (by omega),ih]
   ·rw [XX,ih]
structure MinC (g:G) (n:Nat) (w:Nat):Prop where
 c:checkG g=0
 n':g.n=n
 n2:2≤n
 odd:w%2=1
 lt:w<2^n-1
 eq:connW n g.es (2^n-1)=(cutW w g.es,setN n w)
 mn: ∀w',w'%2=1->w'<2^n-1->cutW w g.es≤cutW w' g.es
section
variable {g:G} {n w:Nat}
end
end Go.Proofs.YtdbdfkohpjefjaaGreat
