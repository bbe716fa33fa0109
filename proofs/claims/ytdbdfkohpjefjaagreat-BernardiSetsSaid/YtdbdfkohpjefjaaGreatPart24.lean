/- A part of the proof. -/
import Derived.Test.YtdbdfkohpjefjaaGreatPart20
import Derived.Test.YtdbdfkohpjefjaaGreatPart18
import Derived.Test.YtdbdfkohpjefjaaGreatPart17
set_option linter.all false
set_option maxHeartbeats 4000000
set_option maxRecDepth 100000
namespace Go.Proofs.YtdbdfkohpjefjaaGreat
open Go.Sp
end Go.Proofs.YtdbdfkohpjefjaaGreat
namespace Go.Proofs.YtdbdfkohpjefjaaGreat
open Go.Sp Go.RowKit
open Go.Sort (SWO)
set_option maxHeartbeats 1000000
def A1K:List Int->List Int->Int
 | [],[]=>0
 | [],_::_=> -1
 | _::_,[]=>1
 | x::a,y::b=>if A59 x y=0 then A1K a b else A59 x y
theorem A86 {x y:Int}:A59 x y=0↔x=y:=by unfold A59; (repeat' split)<;>omega
theorem C0A {x y:Int}:A59 x y<0↔x<y:=by unfold A59; (repeat' split)<;>omega
theorem A9L {a b:List Int} {i:Nat} {x y:Int} (ha:a[i]? =some x) (hb:b[i]? =some y):A1K (a.drop i) (b.drop i)=if A59 x y=0 then A1K (a.drop (i+1)) (b.drop (i+1)) else A59 x y:=by
 obtain ⟨h1,rfl⟩:=Qx.1 ha;obtain ⟨h2,rfl⟩:=Qx.1 hb;rw [Zy h1,Zy h2];rfl
theorem B1U {a b:List Int} {i:Nat} {x:Int} (ha:a[i]? =some x) (hb:b.length≤i):A1K (a.drop i) (b.drop i)=1:=by
 obtain ⟨h1,rfl⟩:=Qx.1 ha;rw [Zy h1,Vx hb];rfl
theorem B8e {a b:List Int} {i:Nat} (ha:a.length=i) (hb:i≤b.length):A1K (a.drop i) (b.drop i)=if a.length<b.length then -1 else 0:=by
 rw [Vx (by omega)];by_cases h:i<b.length
 ·rw [Zy h,if_pos (by omega)]; rfl
 ·rw [Vx (by omega),if_neg (by omega)]; rfl
end Go.Proofs.YtdbdfkohpjefjaaGreat
namespace Go.Proofs.YtdbdfkohpjefjaaGreat
open Go.Sp
def ATf (L:List (Nat×Nat)):List (List Int):=(List.range 12).map fun v=>zI (atV L v)
theorem C26 (L:List (Nat×Nat)):(ATf L).length=12:=by simp [ATf]
theorem B0A (T:List Nat) (x:Nat):zI T++[(x:Int)]=zI (T++[x]):=by simp [zI]
set_option maxHeartbeats 1000000
@[simp] theorem C4X (L:List (Nat×Nat)):(chJ (ATf L)).take 12=chJ (ATf L):=A5Z (by rw [C26]; exact QQ _)
theorem B8f (es:List E):(A0f es).all A1f=true:=by
 rw [Zv]; intro r hr;obtain ⟨x,_,rfl⟩:=Xq.1 hr; rfl
theorem B8g (l:List Int):(A0o l).all A1f=true:=by
 rw [Zv]; intro r hr;obtain ⟨x,_,rfl⟩:=Xq.1 hr; rfl
theorem C0B {l:List (List Int)} {r:List Tree} (h:r∈A0x l):B0v r:=by
 obtain ⟨x,_,rfl⟩:=Xq.1 h;intro t ht;rw [XJ] at ht;subst ht;exact ⟨_,rfl,B8g x⟩
theorem C0C {l:List Blk} (h: ∀b,b∈l->B6U b) (id:Nat) (blk:Blk) (hb:l[id]? =some blk):B6U blk:=h blk (Qy hb)
theorem B4r: ∀{a b:List Int},A1K a b=0↔a=b
 | [],[]=>by simp [A1K]
 | [],_::_=>by simp [A1K]
 | _::_,[]=>by simp [A1K]
 | x::a,y::b=>by
  rw [A1K];have h:=A86 (x:=x) (y:=y);split
  ·rename_i h0;rw [B4r,h.1 h0]; simp
  ·rename_i h0;constructor
   ·intro e; exact absurd e h0
   ·intro e; injection e with e1 _; exact absurd (h.2 e1) h0
theorem B3q (a b:List Int) (hl:a.length<2^40) (hl2:b.length<2^40):ACall Tryz.prog 30 [A0n a,A0n b] (A0m (A1K a b)):=by
 refine ACall.of_body Tryz.func30 rfl (by kernel_rfl) ?_;simp only [entry,Tryz.ntmps30,A0n];refine zU ?_;refine zR (zc @A0e Qw8) Qw8 Qw8 ?_;refine AWp.loopS (α:=Nat) 36 (fun i=>[(0,.c (.slice (A0o a) .none)),(1,.c (.slice (A0o b) .none)),(9,.c (.slice (A0o a) .none)),(10,.c (.int .i64 (a.length:Int))),(11,.c (.int .i64 (i:Int)))]) (fun i=>[]) (fun i=>i≤a.length∧i≤b.length∧A1K (a.drop i) (b.drop i)=A1K a b) (fun i=>a.length-i) (0) (hk:=Weak.headL 0 36 [0,1,9,10,11] zW) (h0:=?_) (round:=fun i hI=>?_)
 ·exact ⟨Xj _,Xj _,rfl⟩
 ·obtain ⟨hi,hi2,he⟩:=hI;by_cases hlt:i<a.length
  ·have hltI:(i:Int)<(a.length:Int):=by omega
   have hi0:0≤(i:Int):=by omega
   have ea:=Qq hlt;have ra:=A0w ea;generalize a[i]=x at*;by_cases hb:i<b.length
   ·have eb:=Qq hb;have rb:=A0w eb;generalize b[i]=y at*;have hbI: ¬(b.length:Int)≤(i:Int):=by omega
    have hbI2:(i:Int)<(b.length:Int):=by omega
    have hc:=A9u x y;have hd:=A9L ea eb;by_cases h0:A59 x y=0
    ·rw [if_pos h0] at hd;rw [h0] at hc;refine zR (zc @hltI (zc @hi0 (zc @hbI (zc @hbI2 (zc @ra (zc @rb (zc @A0e Qw8))))))) (zc hc Qw8) Qw8 ?_;refine ⟨i+1,Weak.headN 0 36 [0,1,9,10,11] zW,?_,?_⟩
     ·exact ⟨hlt,hb,by rw [<-hd]; exact he⟩
     ·omega
    ·rw [if_neg h0,he] at hd;rw [hd];refine zR (zc @hltI (zc @hi0 (zc @hbI (zc @hbI2 (zc @ra (zc @rb (zc @h0 (zc @A0e Qw8)))))))) (zc hc Qw8) Qw8 ?_;simp [A0z,A0y,Blk.cells,ty,Tryz.results30,A0t,A0u,toT,A0d,A0b,A0c,A0a,A0m]
   ·have hbI:(b.length:Int)≤(i:Int):=by omega
    have hd:=B1U ea (by omega:b.length≤i);rw [he] at hd;rw [hd];refine zR (zc @hltI (zc @hi0 (zc @hbI (zc @ra (zc @A0e Qw8))))) Qw8 Qw8 ?_;simp [A0z,A0y,Blk.cells,ty,Tryz.results30,A0t,A0u,toT,A0d,A0b,A0c,A0a,A0m]
  ·have hnl: ¬(i:Int)<(a.length:Int):=by omega
   have ei:i=a.length:=by omega
   subst ei;have hd:=B8e (a:=a) (b:=b) rfl hi2;rw [he] at hd;rw [hd];by_cases hab:a.length<b.length
   ·have habI:(a.length:Int)<(b.length:Int):=by omega
    rw [if_pos hab];refine zR (zc @hnl (zc @habI (zc @A0e Qw8))) Qw8 Qw8 ?_;simp [A0z,A0y,Blk.cells,ty,Tryz.results30,A0t,A0u,toT,A0d,A0b,A0c,A0a,A0m]
   ·have habI: ¬(a.length:Int)<(b.length:Int):=by omega
    rw [if_neg hab];refine zR (zc @hnl (zc @habI (zc @A0e Qw8))) Qw8 Qw8 ?_;simp [A0z,A0y,Blk.cells,ty,Tryz.results30,A0t,A0u,toT,A0d,A0b,A0c,A0a,A0m]
theorem A87 (l m:List Int) (hl:l.length<2^40) (hm:m.length<2^40):ACall Tryz.prog 51 [A0n l,A0n m] (A0v (decide (l=m))):=by
 refine ACall.of_body Tryz.func51 rfl (by kernel_rfl) ?_;simp only [entry,Tryz.ntmps51,A0n];refine zU ?_
 repeat' (first|((first|(refine zT ?_;intro K' hK')|(refine zG ?_ ?_<;>(try refine zH ?_)<;>intro hguard<;>(try exact zX)<;>try intro K' hK'))<;>((try simp+contextual only [go_sem,A0e]);(repeat' first|(with_reducible refine hK' _ _ ?_;clear hK' K')|exact zY|with_reducible refine Qw7 ?_ ?_|(with_reducible intro hpath;try exact zP)|(refine hK' _ _ ?_;clear hK' K')|fail);try refine zS ?_))|(refine zE ?_;refine hK _ _ ?_;clear hK K)|(refine zN ?_;try refine zS ?_)|refine zA ?_|(refine zB ?_;intro K hK)|(refine zC ?_ ?_<;>(try refine zH ?_)<;>intro hcond<;>try exact zX)|fail)
 ·have e: ¬l=m:=fun e=>by subst e; omega
  simp [A0z,A0y,Blk.cells,ty,Tryz.results51,A0t,A0u,toT,A0d,A0b,A0c,A0a,A0v,e]
 ·have hlm:l.length=m.length:=by omega
  refine AWp.loopS (α:=Nat) 26 (fun k=>[(0,.c (.slice (A0o l) .none)),(1,.c (.slice (A0o m) .none)),(12,.c (.int .i64 l.length)),(13,.c (.int .i64 (k:Int)))]) (fun k=>[]) (fun k=>k≤l.length∧ ∀j,j<k->l[j]? =m[j]?) (fun k=>l.length-k) (0) (hk:=Weak.headL 0 26 [0,1,12,13] zW) (h0:=?_) (round:=fun k hI=>?_)
  ·exact ⟨Xj _,fun j hj=>by omega⟩
  ·obtain ⟨hk,hx⟩:=hI;by_cases hlt:k<l.length
   ·have hlt2:k<m.length:=by omega
    have e1:=A0w (Qq hlt);have e2:=A0w (Qq hlt2)
    repeat' (first|((first|(refine zT ?_;intro K' hK')|(refine zG ?_ ?_<;>(try refine zH ?_)<;>intro hguard<;>(try exact zX)<;>try intro K' hK'))<;>((try simp+contextual only [go_sem,e1,e2,Int.toNat_natCast,ZY]);(repeat' first|(with_reducible refine hK' _ _ ?_;clear hK' K')|exact zY|with_reducible refine Qw7 ?_ ?_|(with_reducible intro hpath;try exact zP)|(refine hK' _ _ ?_;clear hK' K')|fail);try refine zS ?_))|(refine zE ?_;refine hK _ _ ?_;clear hK K)|(refine zN ?_;try refine zS ?_)|refine zA ?_|(refine zB ?_;intro K hK)|(refine zC ?_ ?_<;>(try refine zH ?_)<;>intro hcond<;>try exact zX)|fail)
    ·have e: ¬l=m:=fun e=>by subst e; omega
     simp [A0z,A0y,Blk.cells,ty,Tryz.results51,A0t,A0u,toT,A0d,A0b,A0c,A0a,A0v,e]
    ·refine ⟨k+1,Weak.headN 0 26 [0,1,12,13] zW,?_,?_⟩
     ·refine ⟨hlt,fun j hj=> ?_⟩;by_cases hjk:j=k
      ·subst hjk; rw [Qq hlt,Qq hlt2]; congr 1
      ·exact hx j (by omega)
     ·omega
   ·have e:l=m:=XY fun j=>by
     by_cases hj:j<l.length
     ·exact hx j (by omega)
     ·rw [QV (by omega),QV (by omega)]
    refine zR (zc @ZY Qw8) Qw8 Qw8 ?_;simp [A0z,A0y,Blk.cells,ty,Tryz.results51,A0t,A0u,toT,A0d,A0b,A0c,A0a,A0v,e]
theorem B5J (a b:List Int) (hab:a.length=b.length) (hl:a.length<2^40):ACall Tryz.prog 58 [A0n a,A0n b] (A0m (A1K a b)):=by
 refine ACall.of_body Tryz.func58 rfl (by kernel_rfl) ?_;simp only [entry,Tryz.ntmps58,A0n];refine zU ?_;refine zR Qw8 Qw8 Qw8 ?_;refine AWp.loopS (α:=Nat) 30 (fun i=>[(0,.c (.slice (A0o a) .none)),(1,.c (.slice (A0o b) .none)),(5,.c (.int .i64 (i:Int)))]) (fun i=>[]) (fun i=>i≤a.length∧A1K (a.drop i) (b.drop i)=A1K a b) (fun i=>a.length-i) (0) (hk:=Weak.headL 0 30 [0,1,5] zW) (h0:=?_) (round:=fun i hI=>?_)
 ·exact ⟨Xj _,rfl⟩
 ·obtain ⟨hi,he⟩:=hI;by_cases hlt:i<a.length
  ·have hltI:(i:Int)<(a.length:Int):=by omega
   have hltJ:(i:Int)<(b.length:Int):=by omega
   have ea:=Qq hlt;have eb:=Qq (show i<b.length by omega);have ra:=A0w ea;have rb:=A0w eb;have hd:=A9L ea eb;rw [he] at hd;generalize a[i]=x at*;generalize b[i]=y at*;by_cases h1:x<y
   ·have hc:A59 x y= -1:=by unfold A59; rw [if_pos h1]
    rw [hc,if_neg (by decide)] at hd;rw [hd];refine zR (zc @hltI (zc @hltJ (zc @ra (zc @rb (zc @h1 (zc @A0e Qw8)))))) Qw8 Qw8 ?_;simp [A0z,A0y,Blk.cells,ty,Tryz.results58,A0t,A0u,toT,A0d,A0b,A0c,A0a,A0m]
   ·by_cases h2:y<x
    ·have hc:A59 x y=1:=by unfold A59; rw [if_neg h1]; (repeat' split)<;>omega
     rw [hc,if_neg (by decide)] at hd;rw [hd];refine zR (zc @hltI (zc @hltJ (zc @ra (zc @rb (zc @h1 (zc @h2 (zc @A0e Qw8))))))) Qw8 Qw8 ?_;simp [A0z,A0y,Blk.cells,ty,Tryz.results58,A0t,A0u,toT,A0d,A0b,A0c,A0a,A0m]
    ·have hc:A59 x y=0:=A86.2 (by omega);rw [if_pos hc] at hd;refine zR (zc @hltI (zc @hltJ (zc @ra (zc @rb (zc @h1 (zc @h2 (zc @A0e Qw8))))))) Qw8 Qw8 ?_;refine ⟨i+1,Weak.headN 0 30 [0,1,5] zW,?_,?_⟩
     ·exact ⟨hlt,hd.symm⟩
     ·omega
  ·have ei:i=a.length:=by omega
   have hnl: ¬(i:Int)<(a.length:Int):=by omega
   rw [ei,Qx3,Vx (by omega)] at he;rw [<-he];refine zR (zc @hnl (zc @A0e Qw8)) Qw8 Qw8 ?_;simp [A0z,A0y,Blk.cells,ty,Tryz.results58,A0t,A0u,toT,A0d,A0b,A0c,A0a,A0m,A1K]
theorem B8h (a b:List Int) (hl:a.length<2^40) (hl2:b.length<2^40):ACall Tryz.prog 17 [A0n a,A0n b] (A0v (decide (a=b))):=by
 by_cases hab:a.length=b.length
 ·have hO:=B5J a b hab hl;have habI:(a.length:Int)=(b.length:Int):=by omega
  have e:decide (A1K a b=0)=decide (a=b):=by rw [decide_eq_decide]; exact B4r
  rw [<-e];generalize A1K a b=c at*;refine ACall.of_body Tryz.func17 rfl (by kernel_rfl) ?_;simp only [entry,Tryz.ntmps17,A0n];refine zU ?_;refine zR (zc @A0e (zc @habI Qw8)) (zc hO Qw8) Qw8 ?_;simp [A0z,A0y,Blk.cells,ty,Tryz.results17,A0t,A0u,toT,A0d,A0b,A0c,A0a,A0v]
 ·have habI: ¬(a.length:Int)=(b.length:Int):=by omega
  rw [decide_eq_false (fun e=>hab (by rw [e]))];refine ACall.of_body Tryz.func17 rfl (by kernel_rfl) ?_;simp only [entry,Tryz.ntmps17,A0n];refine zU ?_;refine zR (zc @A0e (zc @habI Qw8)) Qw8 Qw8 ?_;simp [A0z,A0y,Blk.cells,ty,Tryz.results17,A0t,A0u,toT,A0d,A0b,A0c,A0a,A0v]
theorem B1V (a b:List (List Int)) (ha:a.length<2^40) (hb:b.length<2^40) (hal: ∀l,l∈a->l.length<2^40) (hbl: ∀l,l∈b->l.length<2^40):ACall Tryz.prog 31 [A0N a,A0N b] (A0v (decide (a=b))):=by
 by_cases hab:a.length=b.length
 case neg=>
  have habI: ¬(a.length:Int)=(b.length:Int):=by omega
  rw [decide_eq_false (fun e=>hab (by rw [e]))];refine ACall.of_body Tryz.func31 rfl (by kernel_rfl) ?_;simp only [entry,Tryz.ntmps31,A0N];refine zU ?_;refine zR (zc @A0q (zc @habI Qw8)) Qw8 Qw8 ?_;simp [A0z,A0y,Blk.cells,ty,Tryz.results31,A0t,A0u,toT,A0d,A0b,A0c,A0a,A0v]
 have habI:(a.length:Int)=(b.length:Int):=by omega
 refine ACall.of_body Tryz.func31 rfl (by kernel_rfl) ?_;simp only [entry,Tryz.ntmps31,A0N];refine zU ?_;refine zR (zc @A0q (zc @habI Qw8)) Qw8 Qw8 ?_;refine AWp.loopS (α:=Nat) 27 (fun i=>[(0,.c (.slice (A0x a) .none)),(1,.c (.slice (A0x b) .none)),(5,.c (.int .i64 (i:Int)))]) (fun i=>[]) (fun i=>i≤a.length∧a.take i=b.take i) (fun i=>a.length-i) (0) (hk:=Weak.headL 0 27 [0,1,5] zW) (h0:=?_) (round:=fun i hI=>?_)
 ·exact ⟨Xj _,rfl⟩
 ·obtain ⟨hi,hI2⟩:=hI;by_cases hlt:i<a.length
  ·have hltI:(i:Int)<(a.length:Int):=by omega
   have hib:i<b.length:=by omega
   have hltJ:(i:Int)<(b.length:Int):=by omega
   have e0:=Qq hlt;have f0:=Qq hib;have e1:=A0X e0;have f1:=A0X f0;have hS:=B8h a[i] b[i] (hal _ (Xv hlt)) (hbl _ (Xv hib));have t1:a.take (i+1)=a.take i++[a[i]]:=XX hlt;have t2:b.take (i+1)=b.take i++[b[i]]:=XX hib;generalize a[i]=x at*;generalize b[i]=y at*;by_cases hxy:x=y
   ·rw [decide_eq_true hxy] at hS;refine zR (zc @hltI (zc @hltJ (zc @A0q (zc @e1 (zc @f1 Qw8))))) (zc hS Qw8) Qw8 ?_;refine ⟨i+1,Weak.headN 0 27 [0,1,5] zW,?_,?_⟩
    ·exact ⟨hlt,by rw [t1,t2,hI2,hxy]⟩
    ·omega
   ·rw [decide_eq_false hxy] at hS;rw [decide_eq_false (fun e=>hxy (by subst e; rw [e0] at f0; exact VY f0))];refine zR (zc @hltI (zc @hltJ (zc @A0q (zc @e1 (zc @f1 Qw8))))) (zc hS Qw8) Qw8 ?_;simp [A0z,A0y,Blk.cells,ty,Tryz.results31,A0t,A0u,toT,A0d,A0b,A0c,A0a,A0v]
  ·have ei:i=a.length:=by omega
   have heq:a=b:=by
    rw [Zz (by omega),Zz (by omega)] at hI2;exact hI2
   rw [decide_eq_true heq];have hnl: ¬((i:Int)<(a.length:Int)):=by omega
   refine zR (zc @hnl (zc @A0q Qw8)) Qw8 Qw8 ?_;simp [A0z,A0y,Blk.cells,ty,Tryz.results31,A0t,A0u,toT,A0d,A0b,A0c,A0a,A0v]
end Go.Proofs.YtdbdfkohpjefjaaGreat
