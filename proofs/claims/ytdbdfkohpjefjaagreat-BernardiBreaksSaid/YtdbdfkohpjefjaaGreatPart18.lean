/- A part of the proof. -/
import Derived.Test.YtdbdfkohpjefjaaGreatPart13
import Derived.Test.YtdbdfkohpjefjaaGreatPart14
set_option linter.all false
set_option maxHeartbeats 4000000
set_option maxRecDepth 100000
namespace Go.Proofs.YtdbdfkohpjefjaaGreat
open Go.Sp
def B6f: ∀{a b:List Int},A1I a b=0↔a=b
 | [],[]=>by simp [A1I]
 | [],_::_=>by simp [A1I]
 | _::_,[]=>by simp [A1I]
 | x::a,y::b=>by
  rw [A1I];have h:=A94 (x:=x) (y:=y);split
  ·rename_i h0;rw [B6f,h.1 h0]; simp
  ·rename_i h0;constructor
   ·intro e; exact absurd e h0
   ·intro e; injection e with e1 _; exact absurd (h.2 e1) h0
def B4V (a b:List Int) (hl:a.length<2^40) (hl2:b.length<2^40):ACall Tryz.prog 30 [A0k a,A0k b] (A0j (A1I a b)):=by
 refine ACall.of_body Tryz.func30 rfl (by kernel_rfl) ?_;simp only [entry,Tryz.ntmps30,A0k];refine zU ?_;refine zR (zc @A0e Qv5) Qv5 Qv5 ?_;refine AWp.loopS (α:=Nat) 36 (fun i=>[(0,.c (.slice (A0l a) .none)),(1,.c (.slice (A0l b) .none)),(9,.c (.slice (A0l a) .none)),(10,.c (.int .i64 (a.length:Int))),(11,.c (.int .i64 (i:Int)))]) (fun i=>[]) (fun i=>i≤a.length∧i≤b.length∧A1I (a.drop i) (b.drop i)=A1I a b) (fun i=>a.length-i) (0) (hk:=Weak.headL 0 36 [0,1,9,10,11] zW) (h0:=?_) (round:=fun i hI=>?_)
 ·exact ⟨Xj _,Xj _,rfl⟩
 ·obtain ⟨hi,hi2,he⟩:=hI;by_cases hlt:i<a.length
  ·have hltI:(i:Int)<(a.length:Int):=by omega
   have hi0:0≤(i:Int):=by omega
   have ea:=Qq hlt;have ra:=A0t ea;generalize a[i]=x at*;by_cases hb:i<b.length
   ·have eb:=Qq hb;have rb:=A0t eb;generalize b[i]=y at*;have hbI: ¬(b.length:Int)≤(i:Int):=by omega
    have hbI2:(i:Int)<(b.length:Int):=by omega
    have hc:=B0x x y;have hd:=B0Q ea eb;by_cases h0:A6f x y=0
    ·rw [if_pos h0] at hd;rw [h0] at hc;refine zR (zc @hltI (zc @hi0 (zc @hbI (zc @hbI2 (zc @ra (zc @rb (zc @A0e Qv5))))))) (zc hc Qv5) Qv5 ?_;refine ⟨i+1,Weak.headN 0 36 [0,1,9,10,11] zW,?_,?_⟩
     ·exact ⟨hlt,hb,by rw [<-hd]; exact he⟩
     ·omega
    ·rw [if_neg h0,he] at hd;rw [hd];refine zR (zc @hltI (zc @hi0 (zc @hbI (zc @hbI2 (zc @ra (zc @rb (zc @h0 (zc @A0e Qv5)))))))) (zc hc Qv5) Qv5 ?_;simp [A0s,A0r,Blk.cells,ty,Tryz.results30,A0o,A0p,toT,A0d,A0b,A0c,A0a,A0j]
   ·have hbI:(b.length:Int)≤(i:Int):=by omega
    have hd:=B3k ea (by omega:b.length≤i);rw [he] at hd;rw [hd];refine zR (zc @hltI (zc @hi0 (zc @hbI (zc @ra (zc @A0e Qv5))))) Qv5 Qv5 ?_;simp [A0s,A0r,Blk.cells,ty,Tryz.results30,A0o,A0p,toT,A0d,A0b,A0c,A0a,A0j]
  ·have hnl: ¬(i:Int)<(a.length:Int):=by omega
   have ei:i=a.length:=by omega
   subst ei;have hd:=C0c (a:=a) (b:=b) rfl hi2;rw [he] at hd;rw [hd];by_cases hab:a.length<b.length
   ·have habI:(a.length:Int)<(b.length:Int):=by omega
    rw [if_pos hab];refine zR (zc @hnl (zc @habI (zc @A0e Qv5))) Qv5 Qv5 ?_;simp [A0s,A0r,Blk.cells,ty,Tryz.results30,A0o,A0p,toT,A0d,A0b,A0c,A0a,A0j]
   ·have habI: ¬(a.length:Int)<(b.length:Int):=by omega
    rw [if_neg hab];refine zR (zc @hnl (zc @habI (zc @A0e Qv5))) Qv5 Qv5 ?_;simp [A0s,A0r,Blk.cells,ty,Tryz.results30,A0o,A0p,toT,A0d,A0b,A0c,A0a,A0j]
def A9A (l m:List Int) (hl:l.length<2^40) (hm:m.length<2^40):ACall Tryz.prog 51 [A0k l,A0k m] (A0q (decide (l=m))):=by
 refine ACall.of_body Tryz.func51 rfl (by kernel_rfl) ?_;simp only [entry,Tryz.ntmps51,A0k];refine zU ?_;refine zM Qv5 (zc @A0e Qv5) Qv5 Qv5 Qv5 (zc (ed fun hp hpc=>?_) (ed fun hp hpc=>?_))
 ·have e: ¬l=m:=fun e=>by subst e; omega
  simp [A0s,A0r,Blk.cells,ty,Tryz.results51,A0o,A0p,toT,A0d,A0b,A0c,A0a,A0q,e]
 ·have hlm:l.length=m.length:=by omega
  refine AWp.loopS (α:=Nat) 26 (fun k=>[(0,.c (.slice (A0l l) .none)),(1,.c (.slice (A0l m) .none)),(12,.c (.int .i64 l.length)),(13,.c (.int .i64 (k:Int)))]) (fun k=>[]) (fun k=>k≤l.length∧ ∀j,j<k->l[j]? =m[j]?) (fun k=>l.length-k) (0) (hk:=Weak.headL 0 26 [0,1,12,13] zW) (h0:=?_) (round:=fun k hI=>?_)
  ·exact ⟨Xj _,fun j hj=>by omega⟩
  ·obtain ⟨hk,hx⟩:=hI;by_cases hlt:k<l.length
   ·have hlt2:k<m.length:=by omega
    have e1:=A0t (Qq hlt);have e2:=A0t (Qq hlt2);refine zM Qv5 (zc @e1 (zc @e2 (zc @Yx Qv5))) Qv5 Qv5 Qv5 (zc (ed fun hp hpc=>?_) (ed fun hp hpc=>?_))
    ·have e: ¬l=m:=fun e=>by subst e; omega
     simp [A0s,A0r,Blk.cells,ty,Tryz.results51,A0o,A0p,toT,A0d,A0b,A0c,A0a,A0q,e]
    ·refine ⟨k+1,Weak.headN 0 26 [0,1,12,13] zW,?_,?_⟩
     ·refine ⟨hlt,fun j hj=> ?_⟩;by_cases hjk:j=k
      ·subst hjk; rw [Qq hlt,Qq hlt2]; congr 1
      ·exact hx j (by omega)
     ·omega
   ·have e:l=m:=Zq fun j=>by
     by_cases hj:j<l.length
     ·exact hx j (by omega)
     ·rw [Xq (by omega),Xq (by omega)]
    refine zR (zc @Yx Qv5) Qv5 Qv5 ?_;simp [A0s,A0r,Blk.cells,ty,Tryz.results51,A0o,A0p,toT,A0d,A0b,A0c,A0a,A0q,e]
def B0U (a b:List Int) (hab:a.length=b.length) (hl:a.length<2^40):ACall Tryz.prog 58 [A0k a,A0k b] (A0j (A1I a b)):=by
 refine ACall.of_body Tryz.func58 rfl (by kernel_rfl) ?_;simp only [entry,Tryz.ntmps58,A0k];refine zU ?_;refine zR Qv5 Qv5 Qv5 ?_;refine AWp.loopS (α:=Nat) 30 (fun i=>[(0,.c (.slice (A0l a) .none)),(1,.c (.slice (A0l b) .none)),(5,.c (.int .i64 (i:Int)))]) (fun i=>[]) (fun i=>i≤a.length∧A1I (a.drop i) (b.drop i)=A1I a b) (fun i=>a.length-i) (0) (hk:=Weak.headL 0 30 [0,1,5] zW) (h0:=?_) (round:=fun i hI=>?_)
 ·exact ⟨Xj _,rfl⟩
 ·obtain ⟨hi,he⟩:=hI;by_cases hlt:i<a.length
  ·have hltI:(i:Int)<(a.length:Int):=by omega
   have hltJ:(i:Int)<(b.length:Int):=by omega
   have ea:=Qq hlt;have eb:=Qq (show i<b.length by omega);have ra:=A0t ea;have rb:=A0t eb;have hd:=B0Q ea eb;rw [he] at hd;generalize a[i]=x at*;generalize b[i]=y at*;by_cases h1:x<y
   ·have hc:A6f x y= -1:=by unfold A6f; rw [if_pos h1]
    rw [hc,if_neg (by decide)] at hd;rw [hd];refine zR (zc @hltI (zc @hltJ (zc @ra (zc @rb (zc @h1 (zc @A0e Qv5)))))) Qv5 Qv5 ?_;simp [A0s,A0r,Blk.cells,ty,Tryz.results58,A0o,A0p,toT,A0d,A0b,A0c,A0a,A0j]
   ·by_cases h2:y<x
    ·have hc:A6f x y=1:=by unfold A6f; rw [if_neg h1]; (repeat' split)<;>omega
     rw [hc,if_neg (by decide)] at hd;rw [hd];refine zR (zc @hltI (zc @hltJ (zc @ra (zc @rb (zc @h1 (zc @h2 (zc @A0e Qv5))))))) Qv5 Qv5 ?_;simp [A0s,A0r,Blk.cells,ty,Tryz.results58,A0o,A0p,toT,A0d,A0b,A0c,A0a,A0j]
    ·have hc:A6f x y=0:=A94.2 (by omega);rw [if_pos hc] at hd;refine zR (zc @hltI (zc @hltJ (zc @ra (zc @rb (zc @h1 (zc @h2 (zc @A0e Qv5))))))) Qv5 Qv5 ?_;refine ⟨i+1,Weak.headN 0 30 [0,1,5] zW,?_,?_⟩
     ·exact ⟨hlt,hd.symm⟩
     ·omega
  ·have ei:i=a.length:=by omega
   have hnl: ¬(i:Int)<(a.length:Int):=by omega
   rw [ei,Qq9,VY (by omega)] at he;rw [<-he];refine zR (zc @hnl (zc @A0e Qv5)) Qv5 Qv5 ?_;simp [A0s,A0r,Blk.cells,ty,Tryz.results58,A0o,A0p,toT,A0d,A0b,A0c,A0a,A0j,A1I]
def B3v (a b:List Int) (hl:a.length<2^40) (hl2:b.length<2^40):ACall Tryz.prog 17 [A0k a,A0k b] (A0q (decide (a=b))):=by
 by_cases hab:a.length=b.length
 ·have hO:=B0U a b hab hl;have habI:(a.length:Int)=(b.length:Int):=by omega
  have e:decide (A1I a b=0)=decide (a=b):=by rw [decide_eq_decide]; exact B6f
  rw [<-e];generalize A1I a b=c at*;refine ACall.of_body Tryz.func17 rfl (by kernel_rfl) ?_;simp only [entry,Tryz.ntmps17,A0k];refine zU ?_;refine zR (zc @A0e (zc @habI Qv5)) (zc hO Qv5) Qv5 ?_;simp [A0s,A0r,Blk.cells,ty,Tryz.results17,A0o,A0p,toT,A0d,A0b,A0c,A0a,A0q]
 ·have habI: ¬(a.length:Int)=(b.length:Int):=by omega
  rw [decide_eq_false (fun e=>hab (by rw [e]))];refine ACall.of_body Tryz.func17 rfl (by kernel_rfl) ?_;simp only [entry,Tryz.ntmps17,A0k];refine zU ?_;refine zR (zc @A0e (zc @habI Qv5)) Qv5 Qv5 ?_;simp [A0s,A0r,Blk.cells,ty,Tryz.results17,A0o,A0p,toT,A0d,A0b,A0c,A0a,A0q]
def A7U (a b:List (List Int)) (ha:a.length<2^40) (hb:b.length<2^40) (hal: ∀l,l∈a->l.length<2^40) (hbl: ∀l,l∈b->l.length<2^40):ACall Tryz.prog 31 [A05 a,A05 b] (A0q (decide (a=b))):=by
 by_cases hab:a.length=b.length
 case neg=>
  have habI: ¬(a.length:Int)=(b.length:Int):=by omega
  rw [decide_eq_false (fun e=>hab (by rw [e]))];refine ACall.of_body Tryz.func31 rfl (by kernel_rfl) ?_;simp only [entry,Tryz.ntmps31,A05];refine zU ?_;refine zR (zc @A0i (zc @habI Qv5)) Qv5 Qv5 ?_;simp [A0s,A0r,Blk.cells,ty,Tryz.results31,A0o,A0p,toT,A0d,A0b,A0c,A0a,A0q]
 have habI:(a.length:Int)=(b.length:Int):=by omega
 refine ACall.of_body Tryz.func31 rfl (by kernel_rfl) ?_;simp only [entry,Tryz.ntmps31,A05];refine zU ?_;refine zR (zc @A0i (zc @habI Qv5)) Qv5 Qv5 ?_;refine AWp.loopS (α:=Nat) 27 (fun i=>[(0,.c (.slice (A0n a) .none)),(1,.c (.slice (A0n b) .none)),(5,.c (.int .i64 (i:Int)))]) (fun i=>[]) (fun i=>i≤a.length∧a.take i=b.take i) (fun i=>a.length-i) (0) (hk:=Weak.headL 0 27 [0,1,5] zW) (h0:=?_) (round:=fun i hI=>?_)
 ·exact ⟨Xj _,rfl⟩
 ·obtain ⟨hi,hI2⟩:=hI;by_cases hlt:i<a.length
  ·have hltI:(i:Int)<(a.length:Int):=by omega
   have hib:i<b.length:=by omega
   have hltJ:(i:Int)<(b.length:Int):=by omega
   have e0:=Qq hlt;have f0:=Qq hib;have e1:=A0D e0;have f1:=A0D f0;have hS:=B3v a[i] b[i] (hal _ (Xw hlt)) (hbl _ (Xw hib));have t1:a.take (i+1)=a.take i++[a[i]]:=Xy hlt;have t2:b.take (i+1)=b.take i++[b[i]]:=Xy hib;generalize a[i]=x at*;generalize b[i]=y at*;by_cases hxy:x=y
   ·rw [decide_eq_true hxy] at hS;refine zR (zc @hltI (zc @hltJ (zc @A0i (zc @e1 (zc @f1 Qv5))))) (zc hS Qv5) Qv5 ?_;refine ⟨i+1,Weak.headN 0 27 [0,1,5] zW,?_,?_⟩
    ·exact ⟨hlt,by rw [t1,t2,hI2,hxy]⟩
    ·omega
   ·rw [decide_eq_false hxy] at hS;rw [decide_eq_false (fun e=>hxy (by subst e; rw [e0] at f0; exact JX f0))];refine zR (zc @hltI (zc @hltJ (zc @A0i (zc @e1 (zc @f1 Qv5))))) (zc hS Qv5) Qv5 ?_;simp [A0s,A0r,Blk.cells,ty,Tryz.results31,A0o,A0p,toT,A0d,A0b,A0c,A0a,A0q]
  ·have ei:i=a.length:=by omega
   have heq:a=b:=by
    rw [Zw (by omega),Zw (by omega)] at hI2;exact hI2
   rw [decide_eq_true heq];have hnl: ¬((i:Int)<(a.length:Int)):=by omega
   refine zR (zc @hnl (zc @A0i Qv5)) Qv5 Qv5 ?_;simp [A0s,A0r,Blk.cells,ty,Tryz.results31,A0o,A0p,toT,A0d,A0b,A0c,A0a,A0q]
def A78 (l:List (List Int)) (d:List Int) (hl:l.length<2^40) (hll: ∀x,x∈l->x.length<2^40) (hd:d.length<2^40):ACall Tryz.prog 68 [A05 l,A0k d] (A0q (decide (d∈l))):=by
 refine ACall.of_body Tryz.func68 rfl (by kernel_rfl) ?_;simp only [entry,Tryz.ntmps68,A05,A0k];refine zU ?_;refine zR Qv5 Qv5 Qv5 ?_;refine AWp.loopS (α:=Nat) 18 (fun i=>[(0,.c (.slice (A0n l) .none)),(1,.c (.slice (A0l d) .none)),(5,.c (.int .i64 (i:Int)))]) (fun i=>[]) (fun i=>i≤l.length∧d∉l.take i) (fun i=>l.length-i) (0) (hk:=Weak.headL 0 18 [0,1,5] zW) (h0:=?_) (round:=fun i hI=>?_)
 ·exact ⟨Xj _,by simp⟩
 ·obtain ⟨hi,hI2⟩:=hI;by_cases hlt:i<l.length
  ·have hltI:(i:Int)<(l.length:Int):=by omega
   have e0:=Qq hlt;have e1:=A0D e0;have hm:=Xw hlt;have hS:=B3v l[i] d (hll _ hm) hd;have t1:l.take (i+1)=l.take i++[l[i]]:=Xy hlt;generalize l[i]=x at*;by_cases hxy:x=d
   ·rw [decide_eq_true hxy] at hS;rw [decide_eq_true (by rw [<-hxy]; exact hm)];refine zR (zc @hltI (zc @A0i (zc @e1 Qv5))) (zc hS Qv5) Qv5 ?_;simp [A0s,A0r,Blk.cells,ty,Tryz.results68,A0o,A0p,toT,A0d,A0b,A0c,A0a,A0q]
   ·rw [decide_eq_false hxy] at hS;refine zR (zc @hltI (zc @A0i (zc @e1 Qv5))) (zc hS Qv5) Qv5 ?_;refine ⟨i+1,Weak.headN 0 18 [0,1,5] zW,?_,?_⟩
    ·exact ⟨hlt,by rw [t1]; simp [hI2,Ne.symm hxy]⟩
    ·omega
  ·have ei:i=l.length:=by omega
   rw [Zw (by omega)] at hI2;rw [decide_eq_false hI2];have hnl: ¬((i:Int)<(l.length:Int)):=by omega
   refine zR (zc @hnl (zc @A0i Qv5)) Qv5 Qv5 ?_;simp [A0s,A0r,Blk.cells,ty,Tryz.results68,A0o,A0p,toT,A0d,A0b,A0c,A0a,A0q]
end Go.Proofs.YtdbdfkohpjefjaaGreat
