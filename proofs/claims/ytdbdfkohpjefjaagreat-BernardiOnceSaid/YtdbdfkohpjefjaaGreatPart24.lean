/- A part of the proof. -/
import Derived.Test.YtdbdfkohpjefjaaGreatPart17
set_option linter.all false
set_option maxHeartbeats 4000000
set_option maxRecDepth 100000
namespace Go.Proofs.YtdbdfkohpjefjaaGreat
section
open Go.Sp Go.RowKit
open Go.Sort (SWO)
def A1Q:List Int->List Int->Int
 | [],[]=>0
 | [],_::_=> -1
 | _::_,[]=>1
 | x::a,y::b=>if A5T x y=0 then A1Q a b else A5T x y
theorem A8X {x y:Int}:A5T x y=0↔x=y:=by unfold A5T; (repeat' split)<;>omega
theorem C1A {x y:Int}:A5T x y<0↔x<y:=by unfold A5T; (repeat' split)<;>omega
theorem B0l {a b:List Int} {i:Nat} {x y:Int} (ha:a[i]? =some x) (hb:b[i]? =some y):A1Q (a.drop i) (b.drop i)=if A5T x y=0 then A1Q (a.drop (i+1)) (b.drop (i+1)) else A5T x y:=by
 obtain ⟨h1,rfl⟩:=Qx.1 ha;obtain ⟨h2,rfl⟩:=Qx.1 hb;rw [XV h1,XV h2];rfl
theorem B2o {a b:List Int} {i:Nat} {x:Int} (ha:a[i]? =some x) (hb:b.length≤i):A1Q (a.drop i) (b.drop i)=1:=by
 obtain ⟨h1,rfl⟩:=Qx.1 ha;rw [XV h1,JZ hb];rfl
theorem B8W {a b:List Int} {i:Nat} (ha:a.length=i) (hb:i≤b.length):A1Q (a.drop i) (b.drop i)=if a.length<b.length then -1 else 0:=by
 rw [JZ (by omega)];by_cases h:i<b.length
 ·rw [XV h,if_pos (by omega)]; rfl
 ·rw [JZ (by omega),if_neg (by omega)]; rfl
end
open Go.Sp
theorem B4X: ∀{a b:List Int},A1Q a b=0↔a=b
 | [],[]=>by simp [A1Q]
 | [],_::_=>by simp [A1Q]
 | _::_,[]=>by simp [A1Q]
 | x::a,y::b=>by
  rw [A1Q];have h:=A8X (x:=x) (y:=y);split
  ·rename_i h0;rw [B4X,h.1 h0]; simp
  ·rename_i h0;constructor
   ·intro e; exact absurd e h0
   ·intro e; injection e with e1 _; exact absurd (h.2 e1) h0
theorem B3N (a b:List Int) (hl:a.length<2^40) (hl2:b.length<2^40):ACall Tryz.prog 30 [A0m a,A0m b] (A0k (A1Q a b)):=by
 refine ACall.of_body Tryz.func30 rfl (by kernel_rfl) ?_;simp only [entry,Tryz.ntmps30,A0m];refine zU ?_;refine zR (zc @A0e Qw9) Qw9 Qw9 ?_;refine AWp.loopS (α:=Nat) 36 (fun i=>[(0,.c (.slice (A0p a) .none)),(1,.c (.slice (A0p b) .none)),(9,.c (.slice (A0p a) .none)),(10,.c (.int .i64 (a.length:Int))),(11,.c (.int .i64 (i:Int)))]) (fun i=>[]) (fun i=>i≤a.length∧i≤b.length∧A1Q (a.drop i) (b.drop i)=A1Q a b) (fun i=>a.length-i) (0) (hk:=Weak.headL 0 36 [0,1,9,10,11] zW) (h0:=?_) (round:=fun i hI=>?_)
 ·exact ⟨Xj _,Xj _,rfl⟩
 ·obtain ⟨hi,hi2,he⟩:=hI;by_cases hlt:i<a.length
  ·have hltI:(i:Int)<(a.length:Int):=by omega
   have hi0:0≤(i:Int):=by omega
   have ea:=Qq hlt;have ra:=A0u ea;generalize a[i]=x at*;by_cases hb:i<b.length
   ·have eb:=Qq hb;have rb:=A0u eb;generalize b[i]=y at*;have hbI: ¬(b.length:Int)≤(i:Int):=by omega
    have hbI2:(i:Int)<(b.length:Int):=by omega
    have hc:=A9L x y;have hd:=B0l ea eb;by_cases h0:A5T x y=0
    ·rw [if_pos h0] at hd;rw [h0] at hc;refine zR (zc @hltI (zc @hi0 (zc @hbI (zc @hbI2 (zc @ra (zc @rb (zc @A0e Qw9))))))) (zc hc Qw9) Qw9 ?_;refine ⟨i+1,Weak.headN 0 36 [0,1,9,10,11] zW,?_,?_⟩
     ·exact ⟨hlt,hb,by rw [<-hd]; exact he⟩
     ·omega
    ·rw [if_neg h0,he] at hd;rw [hd];refine zR (zc @hltI (zc @hi0 (zc @hbI (zc @hbI2 (zc @ra (zc @rb (zc @h0 (zc @A0e Qw9)))))))) (zc hc Qw9) Qw9 ?_;simp [A0y,A0x,Blk.cells,ty,Tryz.results30,A0s,A0t,toT,A0d,A0b,A0c,A0a,A0k]
   ·have hbI:(b.length:Int)≤(i:Int):=by omega
    have hd:=B2o ea (by omega:b.length≤i);rw [he] at hd;rw [hd];refine zR (zc @hltI (zc @hi0 (zc @hbI (zc @ra (zc @A0e Qw9))))) Qw9 Qw9 ?_;simp [A0y,A0x,Blk.cells,ty,Tryz.results30,A0s,A0t,toT,A0d,A0b,A0c,A0a,A0k]
  ·have hnl: ¬(i:Int)<(a.length:Int):=by omega
   have ei:i=a.length:=by omega
   subst ei;have hd:=B8W (a:=a) (b:=b) rfl hi2;rw [he] at hd;rw [hd];by_cases hab:a.length<b.length
   ·have habI:(a.length:Int)<(b.length:Int):=by omega
    rw [if_pos hab];refine zR (zc @hnl (zc @habI (zc @A0e Qw9))) Qw9 Qw9 ?_;simp [A0y,A0x,Blk.cells,ty,Tryz.results30,A0s,A0t,toT,A0d,A0b,A0c,A0a,A0k]
   ·have habI: ¬(a.length:Int)<(b.length:Int):=by omega
    rw [if_neg hab];refine zR (zc @hnl (zc @habI (zc @A0e Qw9))) Qw9 Qw9 ?_;simp [A0y,A0x,Blk.cells,ty,Tryz.results30,A0s,A0t,toT,A0d,A0b,A0c,A0a,A0k]
theorem A8Y (l m:List Int) (hl:l.length<2^40) (hm:m.length<2^40):ACall Tryz.prog 51 [A0m l,A0m m] (A0z (decide (l=m))):=by
 refine ACall.of_body Tryz.func51 rfl (by kernel_rfl) ?_;simp only [entry,Tryz.ntmps51,A0m];refine zU ?_
 repeat' (first|((first|(refine zT ?_;intro K' hK')|(refine zG ?_ ?_<;>(try refine zH ?_)<;>intro hguard<;>(try exact zX)<;>try intro K' hK'))<;>((try simp+contextual only [go_sem,A0e]);(repeat' first|(with_reducible refine hK' _ _ ?_;clear hK' K')|exact zY|with_reducible refine Qw8 ?_ ?_|(with_reducible intro hpath;try exact zP)|(refine hK' _ _ ?_;clear hK' K')|fail);try refine zS ?_))|(refine zE ?_;refine hK _ _ ?_;clear hK K)|(refine zN ?_;try refine zS ?_)|refine zA ?_|(refine zB ?_;intro K hK)|(refine zC ?_ ?_<;>(try refine zH ?_)<;>intro hcond<;>try exact zX)|fail)
 ·have e: ¬l=m:=fun e=>by subst e; omega
  simp [A0y,A0x,Blk.cells,ty,Tryz.results51,A0s,A0t,toT,A0d,A0b,A0c,A0a,A0z,e]
 ·have hlm:l.length=m.length:=by omega
  refine AWp.loopS (α:=Nat) 26 (fun k=>[(0,.c (.slice (A0p l) .none)),(1,.c (.slice (A0p m) .none)),(12,.c (.int .i64 l.length)),(13,.c (.int .i64 (k:Int)))]) (fun k=>[]) (fun k=>k≤l.length∧ ∀j,j<k->l[j]? =m[j]?) (fun k=>l.length-k) (0) (hk:=Weak.headL 0 26 [0,1,12,13] zW) (h0:=?_) (round:=fun k hI=>?_)
  ·exact ⟨Xj _,fun j hj=>by omega⟩
  ·obtain ⟨hk,hx⟩:=hI;by_cases hlt:k<l.length
   ·have hlt2:k<m.length:=by omega
    have e1:=A0u (Qq hlt);have e2:=A0u (Qq hlt2)
    repeat' (first|((first|(refine zT ?_;intro K' hK')|(refine zG ?_ ?_<;>(try refine zH ?_)<;>intro hguard<;>(try exact zX)<;>try intro K' hK'))<;>((try simp+contextual only [go_sem,e1,e2,Int.toNat_natCast,ZX]);(repeat' first|(with_reducible refine hK' _ _ ?_;clear hK' K')|exact zY|with_reducible refine Qw8 ?_ ?_|(with_reducible intro hpath;try exact zP)|(refine hK' _ _ ?_;clear hK' K')|fail);try refine zS ?_))|(refine zE ?_;refine hK _ _ ?_;clear hK K)|(refine zN ?_;try refine zS ?_)|refine zA ?_|(refine zB ?_;intro K hK)|(refine zC ?_ ?_<;>(try refine zH ?_)<;>intro hcond<;>try exact zX)|fail)
    ·have e: ¬l=m:=fun e=>by subst e; omega
     simp [A0y,A0x,Blk.cells,ty,Tryz.results51,A0s,A0t,toT,A0d,A0b,A0c,A0a,A0z,e]
    ·refine ⟨k+1,Weak.headN 0 26 [0,1,12,13] zW,?_,?_⟩
     ·refine ⟨hlt,fun j hj=> ?_⟩;by_cases hjk:j=k
      ·subst hjk; rw [Qq hlt,Qq hlt2]; congr 1
      ·exact hx j (by omega)
     ·omega
   ·have e:l=m:=Zx fun j=>by
     by_cases hj:j<l.length
     ·exact hx j (by omega)
     ·rw [Xq (by omega),Xq (by omega)]
    refine zR (zc @ZX Qw9) Qw9 Qw9 ?_;simp [A0y,A0x,Blk.cells,ty,Tryz.results51,A0s,A0t,toT,A0d,A0b,A0c,A0a,A0z,e]
theorem B64 (a b:List Int) (hab:a.length=b.length) (hl:a.length<2^40):ACall Tryz.prog 58 [A0m a,A0m b] (A0k (A1Q a b)):=by
 refine ACall.of_body Tryz.func58 rfl (by kernel_rfl) ?_;simp only [entry,Tryz.ntmps58,A0m];refine zU ?_;refine zR Qw9 Qw9 Qw9 ?_;refine AWp.loopS (α:=Nat) 30 (fun i=>[(0,.c (.slice (A0p a) .none)),(1,.c (.slice (A0p b) .none)),(5,.c (.int .i64 (i:Int)))]) (fun i=>[]) (fun i=>i≤a.length∧A1Q (a.drop i) (b.drop i)=A1Q a b) (fun i=>a.length-i) (0) (hk:=Weak.headL 0 30 [0,1,5] zW) (h0:=?_) (round:=fun i hI=>?_)
 ·exact ⟨Xj _,rfl⟩
 ·obtain ⟨hi,he⟩:=hI;by_cases hlt:i<a.length
  ·have hltI:(i:Int)<(a.length:Int):=by omega
   have hltJ:(i:Int)<(b.length:Int):=by omega
   have ea:=Qq hlt;have eb:=Qq (show i<b.length by omega);have ra:=A0u ea;have rb:=A0u eb;have hd:=B0l ea eb;rw [he] at hd;generalize a[i]=x at*;generalize b[i]=y at*;by_cases h1:x<y
   ·have hc:A5T x y= -1:=by unfold A5T; rw [if_pos h1]
    rw [hc,if_neg (by decide)] at hd;rw [hd];refine zR (zc @hltI (zc @hltJ (zc @ra (zc @rb (zc @h1 (zc @A0e Qw9)))))) Qw9 Qw9 ?_;simp [A0y,A0x,Blk.cells,ty,Tryz.results58,A0s,A0t,toT,A0d,A0b,A0c,A0a,A0k]
   ·by_cases h2:y<x
    ·have hc:A5T x y=1:=by unfold A5T; rw [if_neg h1]; (repeat' split)<;>omega
     rw [hc,if_neg (by decide)] at hd;rw [hd];refine zR (zc @hltI (zc @hltJ (zc @ra (zc @rb (zc @h1 (zc @h2 (zc @A0e Qw9))))))) Qw9 Qw9 ?_;simp [A0y,A0x,Blk.cells,ty,Tryz.results58,A0s,A0t,toT,A0d,A0b,A0c,A0a,A0k]
    ·have hc:A5T x y=0:=A8X.2 (by omega);rw [if_pos hc] at hd;refine zR (zc @hltI (zc @hltJ (zc @ra (zc @rb (zc @h1 (zc @h2 (zc @A0e Qw9))))))) Qw9 Qw9 ?_;refine ⟨i+1,Weak.headN 0 30 [0,1,5] zW,?_,?_⟩
     ·exact ⟨hlt,hd.symm⟩
     ·omega
  ·have ei:i=a.length:=by omega
   have hnl: ¬(i:Int)<(a.length:Int):=by omega
   rw [ei,Vk,JZ (by omega)] at he;rw [<-he];refine zR (zc @hnl (zc @A0e Qw9)) Qw9 Qw9 ?_;simp [A0y,A0x,Blk.cells,ty,Tryz.results58,A0s,A0t,toT,A0d,A0b,A0c,A0a,A0k,A1Q]
theorem B8X (a b:List Int) (hl:a.length<2^40) (hl2:b.length<2^40):ACall Tryz.prog 17 [A0m a,A0m b] (A0z (decide (a=b))):=by
 by_cases hab:a.length=b.length
 ·have hO:=B64 a b hab hl;have habI:(a.length:Int)=(b.length:Int):=by omega
  have e:decide (A1Q a b=0)=decide (a=b):=by rw [decide_eq_decide]; exact B4X
  rw [<-e];generalize A1Q a b=c at*;refine ACall.of_body Tryz.func17 rfl (by kernel_rfl) ?_;simp only [entry,Tryz.ntmps17,A0m];refine zU ?_;refine zR (zc @A0e (zc @habI Qw9)) (zc hO Qw9) Qw9 ?_;simp [A0y,A0x,Blk.cells,ty,Tryz.results17,A0s,A0t,toT,A0d,A0b,A0c,A0a,A0z]
 ·have habI: ¬(a.length:Int)=(b.length:Int):=by omega
  rw [decide_eq_false (fun e=>hab (by rw [e]))];refine ACall.of_body Tryz.func17 rfl (by kernel_rfl) ?_;simp only [entry,Tryz.ntmps17,A0m];refine zU ?_;refine zR (zc @A0e (zc @habI Qw9)) Qw9 Qw9 ?_;simp [A0y,A0x,Blk.cells,ty,Tryz.results17,A0s,A0t,toT,A0d,A0b,A0c,A0a,A0z]
theorem B2p (a b:List (List Int)) (ha:a.length<2^40) (hb:b.length<2^40) (hal: ∀l,l∈a->l.length<2^40) (hbl: ∀l,l∈b->l.length<2^40):ACall Tryz.prog 31 [A0R a,A0R b] (A0z (decide (a=b))):=by
 by_cases hab:a.length=b.length
 case neg=>
  have habI: ¬(a.length:Int)=(b.length:Int):=by omega
  rw [decide_eq_false (fun e=>hab (by rw [e]))];refine ACall.of_body Tryz.func31 rfl (by kernel_rfl) ?_;simp only [entry,Tryz.ntmps31,A0R];refine zU ?_;refine zR (zc @A0o (zc @habI Qw9)) Qw9 Qw9 ?_;simp [A0y,A0x,Blk.cells,ty,Tryz.results31,A0s,A0t,toT,A0d,A0b,A0c,A0a,A0z]
 have habI:(a.length:Int)=(b.length:Int):=by omega
 refine ACall.of_body Tryz.func31 rfl (by kernel_rfl) ?_;simp only [entry,Tryz.ntmps31,A0R];refine zU ?_;refine zR (zc @A0o (zc @habI Qw9)) Qw9 Qw9 ?_;refine AWp.loopS (α:=Nat) 27 (fun i=>[(0,.c (.slice (A00 a) .none)),(1,.c (.slice (A00 b) .none)),(5,.c (.int .i64 (i:Int)))]) (fun i=>[]) (fun i=>i≤a.length∧a.take i=b.take i) (fun i=>a.length-i) (0) (hk:=Weak.headL 0 27 [0,1,5] zW) (h0:=?_) (round:=fun i hI=>?_)
 ·exact ⟨Xj _,rfl⟩
 ·obtain ⟨hi,hI2⟩:=hI;by_cases hlt:i<a.length
  ·have hltI:(i:Int)<(a.length:Int):=by omega
   have hib:i<b.length:=by omega
   have hltJ:(i:Int)<(b.length:Int):=by omega
   have e0:=Qq hlt;have f0:=Qq hib;have e1:=A0W e0;have f1:=A0W f0;have hS:=B8X a[i] b[i] (hal _ (Xw hlt)) (hbl _ (Xw hib));have t1:a.take (i+1)=a.take i++[a[i]]:=XX hlt;have t2:b.take (i+1)=b.take i++[b[i]]:=XX hib;generalize a[i]=x at*;generalize b[i]=y at*;by_cases hxy:x=y
   ·rw [decide_eq_true hxy] at hS;refine zR (zc @hltI (zc @hltJ (zc @A0o (zc @e1 (zc @f1 Qw9))))) (zc hS Qw9) Qw9 ?_;refine ⟨i+1,Weak.headN 0 27 [0,1,5] zW,?_,?_⟩
    ·exact ⟨hlt,by rw [t1,t2,hI2,hxy]⟩
    ·omega
   ·rw [decide_eq_false hxy] at hS;rw [decide_eq_false (fun e=>hxy (by subst e; rw [e0] at f0; exact Jw f0))];refine zR (zc @hltI (zc @hltJ (zc @A0o (zc @e1 (zc @f1 Qw9))))) (zc hS Qw9) Qw9 ?_;simp [A0y,A0x,Blk.cells,ty,Tryz.results31,A0s,A0t,toT,A0d,A0b,A0c,A0a,A0z]
  ·have ei:i=a.length:=by omega
   have heq:a=b:=by
    rw [ZJ (by omega),ZJ (by omega)] at hI2;exact hI2
   rw [decide_eq_true heq];have hnl: ¬((i:Int)<(a.length:Int)):=by omega
   refine zR (zc @hnl (zc @A0o Qw9)) Qw9 Qw9 ?_;simp [A0y,A0x,Blk.cells,ty,Tryz.results31,A0s,A0t,toT,A0d,A0b,A0c,A0a,A0z]
end Go.Proofs.YtdbdfkohpjefjaaGreat
