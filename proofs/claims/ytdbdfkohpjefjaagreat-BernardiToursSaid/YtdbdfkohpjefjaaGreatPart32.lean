/- A part of the proof. -/
import Derived.Test.YtdbdfkohpjefjaaGreatPart29
import Derived.Test.YtdbdfkohpjefjaaGreatPart27
set_option linter.all false
set_option maxHeartbeats 4000000
set_option maxRecDepth 100000
namespace Go.Proofs.YtdbdfkohpjefjaaGreat
open Go.Sp
theorem B5T (g:G) (hl:g.es.length≤40):ACall Tryz.prog 78 [tG g] (A0k (A0w g)):=by
 have hC:=A3m g (by omega);by_cases hc:checkG g=0
 ·rw [hc] at hC;cases hb:connB g with
  | false=>
   have e:A0w g=13:=by unfold A0w; rw [if_neg (fun q=>q hc),if_neg (by rw [hb]; simp)]
   rw [e];rw [hb] at hC;obtain ⟨n,es⟩:=g;have hC2:ACall Tryz.prog 129 [tG ⟨n,es⟩] (.tup [A01 false,A0k 0]):=hC;refine ACall.of_body Tryz.func78 rfl (by kernel_rfl) ?_;simp only [entry,Tryz.ntmps78,tG];refine zU ?_;refine zR Qw6 (zc hC2 Qw6) Qw6 ?_;simp [A0y,A0x,Blk.cells,ty,Tryz.results78,A0s,A0u,toT,A0e,A0b,A0c,A0a,A0k]
  | true=>
   have e:A0w g=0:=by unfold A0w; rw [if_neg (fun q=>q hc),if_pos hb]
   rw [e];rw [hb] at hC;obtain ⟨n,es⟩:=g;have hC2:ACall Tryz.prog 129 [tG ⟨n,es⟩] (.tup [A01 true,A0k 0]):=hC;refine ACall.of_body Tryz.func78 rfl (by kernel_rfl) ?_;simp only [entry,Tryz.ntmps78,tG];refine zU ?_;refine zR Qw6 (zc hC2 Qw6) Qw6 ?_;simp [A0y,A0x,Blk.cells,ty,Tryz.results78,A0s,A0u,toT,A0e,A0b,A0c,A0a,A0k]
 ·have e:A0w g=checkG g:=if_pos hc;have hC2:ACall Tryz.prog 129 [tG g] (.tup [A01 false,A0k (checkG g)]):=by
   rw [decide_eq_false hc] at hC; exact hC
  rw [e];clear hC;generalize checkG g=er at*;obtain ⟨n,es⟩:=g;refine ACall.of_body Tryz.func78 rfl (by kernel_rfl) ?_;simp only [entry,Tryz.ntmps78,tG];refine zU ?_;refine zR (zc @hc Qw6) (zc hC2 Qw6) Qw6 ?_;simp [A0y,A0x,Blk.cells,ty,Tryz.results78,A0s,A0u,toT,A0e,A0b,A0c,A0a,A0k]
noncomputable def indW (g:G) (w:Nat):G:=B7x g (zI (setN g.n.toNat w))
noncomputable def C3c (g:G) (w:Nat):Bool:=connB (indW g w)
noncomputable def A54 (g:G) (k:Nat):List Nat:=((List.range k).map (·+1)).filter (C3c g)
noncomputable def itS (g:G) (k:Nat):List (List TVal):=(A54 g k).map fun w=>[A0m (zI (setN g.n.toNat w)),A0k (C1j (endsL (indW g w).es))]
theorem A6R (g:G) (k:Nat):A54 g (k+1)=if C3c g (k+1)=true then A54 g k++[k+1] else A54 g k:=by
 unfold A54;rw [WZ,WW,VW];cases h:C3c g (k+1)<;>simp [h]
theorem B8I (g:G) (k:Nat):(itS g k).length=(A54 g k).length:=by simp [itS]
theorem C2D (g:G) {k m:Nat} (h:k≤m): ∃r,A54 g m=A54 g k++r:=by
 obtain ⟨d,rfl⟩: ∃d,m=k+d:=⟨m-k,by omega⟩;clear h
 induction d with
 | zero=>exact ⟨[],by simp⟩
 | succ d ih=>
  obtain ⟨r,hr⟩:=ih;rw [<-Wz,A6R,hr];split
  ·exact ⟨r++[k+d+1],by simp⟩
  ·exact ⟨r,rfl⟩
theorem C2E (g:G) {k m:Nat} (h:k+1≤m) (hc:C3c g (k+1)=true):(itS g m)[(A54 g k).length]? =some [A0m (zI (setN g.n.toNat (k+1))),A0k (C1j (endsL (indW g (k+1)).es))]:=by
 obtain ⟨r,hr⟩:=C2D g h;have hs:=A6R g k;rw [if_pos hc] at hs;unfold itS;rw [QY,hr,hs,Zv,QJ (QQ _),Jq];rfl
theorem C2F {g:G} {m k:Nat} {ts:List TVal} (h:(itS g m)[k]? =some ts): ∃w,(A54 g m)[k]? =some w∧ts=[A0m (zI (setN g.n.toNat w)),A0k (C1j (endsL (indW g w).es))]:=by
 unfold itS at h;rw [QY] at h;cases hx:(A54 g m)[k]? with
 | none=>rw [hx] at h; cases h
 | some w=>rw [hx] at h; exact ⟨w,rfl,(Vx h).symm⟩
structure IndOk (g:G):Prop where
 ind: ∀w,1≤w->w<2^g.n.toNat->indE g (zI (setN g.n.toNat w))=0
 chk: ∀w,1≤w->w<2^g.n.toNat->checkG (indW g w)=0
 len: ∀w,1≤w->w<2^g.n.toNat->(indW g w).es.length≤40
theorem B30 (g:G) (hI:IndOk g) (h1:1≤g.n∧g.n≤12) (hl:g.es.length≤40):AIter Tryz.prog 155 [.rptr [.int .i64 g.n,.slice (A0f g.es)]] (itS g (2^g.n.toNat-1)):=by
 obtain ⟨n,hn⟩:=XX (show 0≤g.n by omega);have hn12:n≤12:=by omega
 have hpw:=C4F hn12;have hsl:=C5e n hn12;have hgn:g.n.toNat=n:=by omega
 have hget:=fun k h hc=>C2E g (k:=k) (m:=2^g.n.toNat-1) h hc;have hlenI:=B8I g (2^g.n.toNat-1);have hsu:=A6R g;have hs0:(A54 g 0).length=0:=rfl;have hi:=hI.ind;have hck:=hI.chk;have hil:=hI.len;have hind:=fun w=>B5q g (zI (setN g.n.toNat w)) (by omega) (by rw [A6f]; have:=B0E g.n.toNat w; omega);have hdW: ∀w,B7x g (zI (setN g.n.toNat w))=indW g w:=fun _=>rfl;have hcw: ∀w,C3c g w=connB (indW g w):=fun _=>rfl;simp only [hdW] at hind;rw [hgn] at*;generalize itS g (2^n-1)=xs at*;generalize C3c g=cW at*;generalize A54 g=sW at*;generalize indW g=iW at*;clear hI hdW;obtain ⟨nI,es⟩:=g;simp only at hn hl h1 ⊢;subst hn;have hn0:0≤(n:Int):=by omega
 have hr1:(-9223372036854775808:Int)≤((2^n:Nat):Int)∧((2^n:Nat):Int)≤9223372036854775807:=by omega
 refine AIter.of_body Tryz.func155 rfl (by kernel_rfl) rfl (fun l J Jx hJ hJx hY=> ?_);simp only [entry,Tryz.ntmps155,ofT,A2A,A04,Xy,XV,List.length_cons,List.length_nil,Nat.reduceAdd,Nat.reduceSub,List.replicate_succ,List.replicate_zero,List.cons_append,List.nil_append];refine zR Qw6 Qw6 Qw6 ?_;generalize hP:2^n=P at*;rw [show J 0=J (sW 0).length by rw [hs0]];refine AWp.loopS (α:=Nat) 59 (fun k=>[(0,.c (.yld l)),(1,.c (.rptr [.int .i64 (n:Int),.slice (A0f es)])),(3,.c (.int .i64 ((k+1:Nat):Int)))]) (fun k=>[.ghost (J (sW k).length)]) (fun k=>k+1≤P) (fun k=>P-k) (0) (hk:=A0r.headL 1 59 [0,1,3] zW) (h0:=?_) (round:=fun k hI=>?_)
 ·omega
 ·have hk:k+1≤P:=hI;clear hI;by_cases hkl:k+1<P
  ·have hkI:((k+1:Nat):Int)<(P:Int):=by omega
   have hind1:=hind (k+1);rw [hi (k+1) (by omega) hkl] at hind1;have hck1:=hck (k+1) (by omega) hkl;have hil1:=hil (k+1) (by omega) hkl;have hC:=A3m (iW (k+1)) (by omega);rw [hck1] at hC;have hG:=B9T (iW (k+1)) (by omega);rw [hck1,if_neg (by decide)] at hG;have hcw1:=hcw (k+1);have hsu1:=hsu k;have hget1:=hget k (by omega);generalize hw:k+1=w at*;have hwb:w<2^40:=by omega
   have hz0:zI (setN 0 w)=[]:=rfl;refine zJ (stop 5) (zc @hkI (zc @hsl (zc @hn0 Qw6))) Qw6 Qw6 Qw6 ?_;refine AWp.weak (A0r.opens ((fun t f=>[f,f,f,f,t,f,f,f,f,f,f,f,f,f,f,f,f,f,f,f,f,f,f,f,f,f,f,f,f,f,f,f,f,f,f,f,f,f,f,f,f,f,f,f,f,f,f,f,f,f,f,f,f,f,f,f,f,f,f]) true false) 1 (by first | omega | simp)) ?_;simp only [A2J,B0l,List.length_cons,List.length_nil,Xv,Nat.reduceAdd,List.cons_append,List.nil_append];refine AWp.loopS (α:=Nat) 59 (fun v=>[(0,.c (.yld l)),(1,.c (.rptr [.int .i64 (n:Int),.slice (A0f es)])),(3,.c (.int .i64 (w:Int))),(4,.c (.slice (A0o (zI (setN v w))) (.chain 1))),(20,.c (.int .i64 (n:Int))),(21,.c (.int .i64 (v:Int)))]) (fun v=>[.ghost (J (sW k).length),.chain (setN v w).length 1]) (fun v=>v≤n) (fun v=>n-v) (0) (hk:=A0r.headL 2 59 [0,1,3,4,20,21] zW) (h0:=?_) (round:=fun v hI=>?_)
   ·exact Xj _
   ·have hv:v≤n:=hI;clear hI;by_cases hvl:v<n
    ·have hvI:(v:Int)<(n:Int):=by omega
     have hv0:0≤(v:Int):=by omega
     have hss:=B8G v w;have hsl2:=B0E v w;have hsh:=C5c w v (by omega);have hdl:w / 2^v≤w:=Nat.div_le_self _ _;have han:=C5d (w / 2^v) (by omega);have hb:B8F w v=w / 2^v%2:=rfl;rw [hb] at hss;generalize w / 2^v=x at*;by_cases hp:x%2=1
     ·rw [if_pos hp] at hss;have hpI:((x%2:Nat):Int)=1:=by omega
      have hzs:=B7T (setN v w) v;rw [<-hss] at hzs;have hln:(setN (v+1) w).length=(setN v w).length+1:=by rw [hss]; simp
      generalize setN v w=d at*;refine zRc (zc @hvI (zc @hv0 (zc @hsh (zc @han (zc @hpI (zc @A0d (zc @A1P (zc @A6f Qw6)))))))) Qw6 @A1c ?_;rw [hzs];refine ⟨v+1,A0r.headF 2 59 [0,1,3,4,20,21] (zc @hln Qw6) zW,?_,?_⟩
      ·exact hvl
      ·omega
     ·rw [if_neg hp] at hss;have hpI: ¬((x%2:Nat):Int)=1:=by omega
      refine zR (zc @hvI (zc @hv0 (zc @hsh (zc @han (zc @hpI (zc @A0d (zc @A6f Qw6))))))) Qw6 Qw6 ?_;rw [<-hss];refine ⟨v+1,A0r.headN 2 59 [0,1,3,4,20,21] zW,?_,?_⟩
      ·exact hvl
      ·omega
    ·have hnl: ¬(v:Int)<(n:Int):=by omega
     have ev:v=n:=by omega
     rw [ev];rw [ev] at hnl;cases hcb:cW w with
     | false=>
      rw [<-hcw1,hcb,show (decide ((0:Int)=0)&&false)=false from rfl] at hC;rw [hcb] at hsu1;simp only [YJ,if_false] at hsu1;generalize iW w=H at*;obtain ⟨hn',hes⟩:=H;refine zR (zc @hnl Qw6) (zc hind1 (zc hC Qw6)) Qw6 ?_;rw [<-hsu1];refine ⟨w,A0r.headN 1 59 [0,1,3] zW,?_,?_⟩
      ·exact hkl
      ·omega
     | true=>
      rw [<-hcw1,hcb,show (decide ((0:Int)=0)&&true)=true from rfl] at hC;rw [hcb,if_pos rfl] at hsu1;have hg2:=hget1 hcb;have hsl3:(sW w).length=(sW k).length+1:=by rw [hsu1]; simp
      generalize iW w=H at*;obtain ⟨hn',hes⟩:=H;simp only at hg2 hG;generalize C1j (endsL hes)=gen at*
      repeat' (first|((with_reducible refine AWp.seq (AWp.of_reg (id:=15) (AReg.pre 3 (fun K hK=>?_))));simp only [List.take_succ_cons,List.take_zero])|((with_reducible refine AWp.of_reg (id:=15) (AReg.pre 3 (fun K hK=>?_)));simp only [List.take_succ_cons,List.take_zero])|((first|(refine zT ?_;intro K' hK')|(refine zG ?_ ?_<;>(try refine zH ?_)<;>intro hguard<;>(try exact zX)<;>try intro K' hK'))<;>((try simp+contextual only [go_sem,hnl]);(repeat' first|(with_reducible refine hK' _ _ ?_;clear hK' K')|((with_reducible first|refine zK hind1 ?_|refine zK hC ?_|refine zK hG ?_);try simp+contextual only [go_sem,hnl])|exact zY|with_reducible refine Qw5 ?_ ?_|(with_reducible intro hpath;try exact zP)|(refine hK' _ _ ?_;clear hK' K')|fail);try refine zS ?_))|(refine zE ?_;refine hK _ _ ?_;clear hK K)|(refine zN ?_;try refine zS ?_)|refine zA ?_|(refine zB ?_;intro K hK)|(refine zC ?_ ?_<;>(try refine zH ?_)<;>intro hcond<;>try exact zX)|fail)
      simp only [Zx,ZY];refine AReg.yield rfl rfl rfl (by rfl) (by with_unfolding_all rfl) (by simp [okBlk]) (hY _ _ hg2) (hJ _) hJx ?_ ?_<;>(try refine zS ?_)<;>refine AReg.rest (fun K hK=> ?_)
      ·
       rw [<-hsl3]
       repeat' (first|((first|(refine zT ?_;intro K' hK')|(refine zG ?_ ?_<;>(try refine zH ?_)<;>intro hguard<;>(try exact zX)<;>try intro K' hK'))<;>((try simp+contextual only [go_sem]);(repeat' first|(with_reducible refine hK' _ _ ?_;clear hK' K')|exact zY|with_reducible refine Qw5 ?_ ?_|(with_reducible intro hpath;try exact zP)|(refine hK' _ _ ?_;clear hK' K')|fail);try refine zS ?_))|(refine zE ?_;refine hK _ _ ?_;clear hK K)|(refine zN ?_;try refine zS ?_)|refine zA ?_|(refine zB ?_;intro K hK)|(refine zC ?_ ?_<;>(try refine zH ?_)<;>intro hcond<;>try exact zX)|fail)
       refine ⟨w,A0r.headN 1 59 [0,1,3] zW,?_,?_⟩
       ·exact hkl
       ·omega
      ·
       repeat' (first|((first|(refine zT ?_;intro K' hK')|(refine zG ?_ ?_<;>(try refine zH ?_)<;>intro hguard<;>(try exact zX)<;>try intro K' hK'))<;>((try simp+contextual only [go_sem]);(repeat' first|(with_reducible refine hK' _ _ ?_;clear hK' K')|exact zY|with_reducible refine Qw5 ?_ ?_|(with_reducible intro hpath;try exact zP)|(refine hK' _ _ ?_;clear hK' K')|fail);try refine zS ?_))|(refine zE ?_;refine hK _ _ ?_;clear hK K)|(refine zN ?_;try refine zS ?_)|refine zA ?_|(refine zB ?_;intro K hK)|(refine zC ?_ ?_<;>(try refine zH ?_)<;>intro hcond<;>try exact zX)|fail)
       exact ⟨Qw4,_,.inr rfl⟩
  ·have hnl: ¬((k+1:Nat):Int)<(P:Int):=by omega
   have ek:k=P-1:=by omega
   refine zR (zc @hnl (zc @hsl (zc @hn0 Qw6))) Qw6 Qw6 ?_;exact ⟨Qw4,_,.inl (by rw [hlenI,ek])⟩
theorem B45: ∀{a b:List Int},A1M a b=0↔a=b
 | [],[]=>by simp [A1M]
 | [],_::_=>by simp [A1M]
 | _::_,[]=>by simp [A1M]
 | x::a,y::b=>by
  rw [A1M];have h:=A8D (x:=x) (y:=y);split
  ·rename_i h0;rw [B45,h.1 h0]; simp
  ·rename_i h0;constructor
   ·intro e; exact absurd e h0
   ·intro e; injection e with e1 _; exact absurd (h.2 e1) h0
theorem B31 (a b:List Int) (hl:a.length<2^40) (hl2:b.length<2^40):ACall Tryz.prog 30 [A0m a,A0m b] (A0k (A1M a b)):=by
 refine ACall.of_body Tryz.func30 rfl (by kernel_rfl) ?_;simp only [entry,Tryz.ntmps30,A0m];refine zU ?_;refine zR (zc @A0d Qw6) Qw6 Qw6 ?_;refine AWp.loopS (α:=Nat) 36 (fun i=>[(0,.c (.slice (A0o a) .none)),(1,.c (.slice (A0o b) .none)),(9,.c (.slice (A0o a) .none)),(10,.c (.int .i64 (a.length:Int))),(11,.c (.int .i64 (i:Int)))]) (fun i=>[]) (fun i=>i≤a.length∧i≤b.length∧A1M (a.drop i) (b.drop i)=A1M a b) (fun i=>a.length-i) (0) (hk:=A0r.headL 0 36 [0,1,9,10,11] zW) (h0:=?_) (round:=fun i hI=>?_)
 ·exact ⟨Xj _,Xj _,rfl⟩
 ·obtain ⟨hi,hi2,he⟩:=hI;by_cases hlt:i<a.length
  ·have hltI:(i:Int)<(a.length:Int):=by omega
   have hi0:0≤(i:Int):=by omega
   have ea:=Qq hlt;have ra:=A0t ea;generalize a[i]=x at*;by_cases hb:i<b.length
   ·have eb:=Qq hb;have rb:=A0t eb;generalize b[i]=y at*;have hbI: ¬(b.length:Int)≤(i:Int):=by omega
    have hbI2:(i:Int)<(b.length:Int):=by omega
    have hc:=A9w x y;have hd:=A9J ea eb;by_cases h0:A55 x y=0
    ·rw [if_pos h0] at hd;rw [h0] at hc;refine zR (zc @hltI (zc @hi0 (zc @hbI (zc @hbI2 (zc @ra (zc @rb (zc @A0d Qw6))))))) (zc hc Qw6) Qw6 ?_;refine ⟨i+1,A0r.headN 0 36 [0,1,9,10,11] zW,?_,?_⟩
     ·exact ⟨hlt,hb,by rw [<-hd]; exact he⟩
     ·omega
    ·rw [if_neg h0,he] at hd;rw [hd];refine zR (zc @hltI (zc @hi0 (zc @hbI (zc @hbI2 (zc @ra (zc @rb (zc @h0 (zc @A0d Qw6)))))))) (zc hc Qw6) Qw6 ?_;simp [A0y,A0x,Blk.cells,ty,Tryz.results30,A0s,A0u,toT,A0e,A0b,A0c,A0a,A0k]
   ·have hbI:(b.length:Int)≤(i:Int):=by omega
    have hd:=B1M ea (by omega:b.length≤i);rw [he] at hd;rw [hd];refine zR (zc @hltI (zc @hi0 (zc @hbI (zc @ra (zc @A0d Qw6))))) Qw6 Qw6 ?_;simp [A0y,A0x,Blk.cells,ty,Tryz.results30,A0s,A0u,toT,A0e,A0b,A0c,A0a,A0k]
  ·have hnl: ¬(i:Int)<(a.length:Int):=by omega
   have ei:i=a.length:=by omega
   subst ei;have hd:=B7P (a:=a) (b:=b) rfl hi2;rw [he] at hd;rw [hd];by_cases hab:a.length<b.length
   ·have habI:(a.length:Int)<(b.length:Int):=by omega
    rw [if_pos hab];refine zR (zc @hnl (zc @habI (zc @A0d Qw6))) Qw6 Qw6 ?_;simp [A0y,A0x,Blk.cells,ty,Tryz.results30,A0s,A0u,toT,A0e,A0b,A0c,A0a,A0k]
   ·have habI: ¬(a.length:Int)<(b.length:Int):=by omega
    rw [if_neg hab];refine zR (zc @hnl (zc @habI (zc @A0d Qw6))) Qw6 Qw6 ?_;simp [A0y,A0x,Blk.cells,ty,Tryz.results30,A0s,A0u,toT,A0e,A0b,A0c,A0a,A0k]
theorem A8N (l m:List Int) (hl:l.length<2^40) (hm:m.length<2^40):ACall Tryz.prog 51 [A0m l,A0m m] (A01 (decide (l=m))):=by
 refine ACall.of_body Tryz.func51 rfl (by kernel_rfl) ?_;simp only [entry,Tryz.ntmps51,A0m];refine zU ?_
 repeat' (first|((first|(refine zT ?_;intro K' hK')|(refine zG ?_ ?_<;>(try refine zH ?_)<;>intro hguard<;>(try exact zX)<;>try intro K' hK'))<;>((try simp+contextual only [go_sem,A0d]);(repeat' first|(with_reducible refine hK' _ _ ?_;clear hK' K')|exact zY|with_reducible refine Qw5 ?_ ?_|(with_reducible intro hpath;try exact zP)|(refine hK' _ _ ?_;clear hK' K')|fail);try refine zS ?_))|(refine zE ?_;refine hK _ _ ?_;clear hK K)|(refine zN ?_;try refine zS ?_)|refine zA ?_|(refine zB ?_;intro K hK)|(refine zC ?_ ?_<;>(try refine zH ?_)<;>intro hcond<;>try exact zX)|fail)
 ·have e: ¬l=m:=fun e=>by subst e; omega
  simp [A0y,A0x,Blk.cells,ty,Tryz.results51,A0s,A0u,toT,A0e,A0b,A0c,A0a,A01,e]
 ·have hlm:l.length=m.length:=by omega
  refine AWp.loopS (α:=Nat) 26 (fun k=>[(0,.c (.slice (A0o l) .none)),(1,.c (.slice (A0o m) .none)),(12,.c (.int .i64 l.length)),(13,.c (.int .i64 (k:Int)))]) (fun k=>[]) (fun k=>k≤l.length∧ ∀j,j<k->l[j]? =m[j]?) (fun k=>l.length-k) (0) (hk:=A0r.headL 0 26 [0,1,12,13] zW) (h0:=?_) (round:=fun k hI=>?_)
  ·exact ⟨Xj _,fun j hj=>by omega⟩
  ·obtain ⟨hk,hx⟩:=hI;by_cases hlt:k<l.length
   ·have hlt2:k<m.length:=by omega
    have e1:=A0t (Qq hlt);have e2:=A0t (Qq hlt2)
    repeat' (first|((first|(refine zT ?_;intro K' hK')|(refine zG ?_ ?_<;>(try refine zH ?_)<;>intro hguard<;>(try exact zX)<;>try intro K' hK'))<;>((try simp+contextual only [go_sem,e1,e2,Int.toNat_natCast,ZQ]);(repeat' first|(with_reducible refine hK' _ _ ?_;clear hK' K')|exact zY|with_reducible refine Qw5 ?_ ?_|(with_reducible intro hpath;try exact zP)|(refine hK' _ _ ?_;clear hK' K')|fail);try refine zS ?_))|(refine zE ?_;refine hK _ _ ?_;clear hK K)|(refine zN ?_;try refine zS ?_)|refine zA ?_|(refine zB ?_;intro K hK)|(refine zC ?_ ?_<;>(try refine zH ?_)<;>intro hcond<;>try exact zX)|fail)
    ·have e: ¬l=m:=fun e=>by subst e; omega
     simp [A0y,A0x,Blk.cells,ty,Tryz.results51,A0s,A0u,toT,A0e,A0b,A0c,A0a,A01,e]
    ·refine ⟨k+1,A0r.headN 0 26 [0,1,12,13] zW,?_,?_⟩
     ·refine ⟨hlt,fun j hj=> ?_⟩;by_cases hjk:j=k
      ·subst hjk; rw [Qq hlt,Qq hlt2]; congr 1
      ·exact hx j (by omega)
     ·omega
   ·have e:l=m:=XZ fun j=>by
     by_cases hj:j<l.length
     ·exact hx j (by omega)
     ·rw [QV (by omega),QV (by omega)]
    refine zR (zc @ZQ Qw6) Qw6 Qw6 ?_;simp [A0y,A0x,Blk.cells,ty,Tryz.results51,A0s,A0u,toT,A0e,A0b,A0c,A0a,A01,e]
theorem B5U (a b:List Int) (hab:a.length=b.length) (hl:a.length<2^40):ACall Tryz.prog 58 [A0m a,A0m b] (A0k (A1M a b)):=by
 refine ACall.of_body Tryz.func58 rfl (by kernel_rfl) ?_;simp only [entry,Tryz.ntmps58,A0m];refine zU ?_;refine zR Qw6 Qw6 Qw6 ?_;refine AWp.loopS (α:=Nat) 30 (fun i=>[(0,.c (.slice (A0o a) .none)),(1,.c (.slice (A0o b) .none)),(5,.c (.int .i64 (i:Int)))]) (fun i=>[]) (fun i=>i≤a.length∧A1M (a.drop i) (b.drop i)=A1M a b) (fun i=>a.length-i) (0) (hk:=A0r.headL 0 30 [0,1,5] zW) (h0:=?_) (round:=fun i hI=>?_)
 ·exact ⟨Xj _,rfl⟩
 ·obtain ⟨hi,he⟩:=hI;by_cases hlt:i<a.length
  ·have hltI:(i:Int)<(a.length:Int):=by omega
   have hltJ:(i:Int)<(b.length:Int):=by omega
   have ea:=Qq hlt;have eb:=Qq (show i<b.length by omega);have ra:=A0t ea;have rb:=A0t eb;have hd:=A9J ea eb;rw [he] at hd;generalize a[i]=x at*;generalize b[i]=y at*;by_cases h1:x<y
   ·have hc:A55 x y= -1:=by unfold A55; rw [if_pos h1]
    rw [hc,if_neg (by decide)] at hd;rw [hd];refine zR (zc @hltI (zc @hltJ (zc @ra (zc @rb (zc @h1 (zc @A0d Qw6)))))) Qw6 Qw6 ?_;simp [A0y,A0x,Blk.cells,ty,Tryz.results58,A0s,A0u,toT,A0e,A0b,A0c,A0a,A0k]
   ·by_cases h2:y<x
    ·have hc:A55 x y=1:=by unfold A55; rw [if_neg h1]; (repeat' split)<;>omega
     rw [hc,if_neg (by decide)] at hd;rw [hd];refine zR (zc @hltI (zc @hltJ (zc @ra (zc @rb (zc @h1 (zc @h2 (zc @A0d Qw6))))))) Qw6 Qw6 ?_;simp [A0y,A0x,Blk.cells,ty,Tryz.results58,A0s,A0u,toT,A0e,A0b,A0c,A0a,A0k]
    ·have hc:A55 x y=0:=A8D.2 (by omega);rw [if_pos hc] at hd;refine zR (zc @hltI (zc @hltJ (zc @ra (zc @rb (zc @h1 (zc @h2 (zc @A0d Qw6))))))) Qw6 Qw6 ?_;refine ⟨i+1,A0r.headN 0 30 [0,1,5] zW,?_,?_⟩
     ·exact ⟨hlt,hd.symm⟩
     ·omega
  ·have ei:i=a.length:=by omega
   have hnl: ¬(i:Int)<(a.length:Int):=by omega
   rw [ei,Vk,Vv (by omega)] at he;rw [<-he];refine zR (zc @hnl (zc @A0d Qw6)) Qw6 Qw6 ?_;simp [A0y,A0x,Blk.cells,ty,Tryz.results58,A0s,A0u,toT,A0e,A0b,A0c,A0a,A0k,A1M]
theorem B2f (a b:List Int) (hl:a.length<2^40) (hl2:b.length<2^40):ACall Tryz.prog 17 [A0m a,A0m b] (A01 (decide (a=b))):=by
 by_cases hab:a.length=b.length
 ·have hO:=B5U a b hab hl;have habI:(a.length:Int)=(b.length:Int):=by omega
  have e:decide (A1M a b=0)=decide (a=b):=by rw [decide_eq_decide]; exact B45
  rw [<-e];generalize A1M a b=c at*;refine ACall.of_body Tryz.func17 rfl (by kernel_rfl) ?_;simp only [entry,Tryz.ntmps17,A0m];refine zU ?_;refine zR (zc @A0d (zc @habI Qw6)) (zc hO Qw6) Qw6 ?_;simp [A0y,A0x,Blk.cells,ty,Tryz.results17,A0s,A0u,toT,A0e,A0b,A0c,A0a,A01]
 ·have habI: ¬(a.length:Int)=(b.length:Int):=by omega
  rw [decide_eq_false (fun e=>hab (by rw [e]))];refine ACall.of_body Tryz.func17 rfl (by kernel_rfl) ?_;simp only [entry,Tryz.ntmps17,A0m];refine zU ?_;refine zR (zc @A0d (zc @habI Qw6)) Qw6 Qw6 ?_;simp [A0y,A0x,Blk.cells,ty,Tryz.results17,A0s,A0u,toT,A0e,A0b,A0c,A0a,A01]
theorem B2g (a b:List (List Int)) (ha:a.length<2^40) (hb:b.length<2^40) (hal: ∀l,l∈a->l.length<2^40) (hbl: ∀l,l∈b->l.length<2^40):ACall Tryz.prog 31 [A1i a,A1i b] (A01 (decide (a=b))):=by
 by_cases hab:a.length=b.length
 case neg=>
  have habI: ¬(a.length:Int)=(b.length:Int):=by omega
  rw [decide_eq_false (fun e=>hab (by rw [e]))];refine ACall.of_body Tryz.func31 rfl (by kernel_rfl) ?_;simp only [entry,Tryz.ntmps31,A1i];refine zU ?_;refine zR (zc @A0q (zc @habI Qw6)) Qw6 Qw6 ?_;simp [A0y,A0x,Blk.cells,ty,Tryz.results31,A0s,A0u,toT,A0e,A0b,A0c,A0a,A01]
 have habI:(a.length:Int)=(b.length:Int):=by omega
 refine ACall.of_body Tryz.func31 rfl (by kernel_rfl) ?_;simp only [entry,Tryz.ntmps31,A1i];refine zU ?_;refine zR (zc @A0q (zc @habI Qw6)) Qw6 Qw6 ?_;refine AWp.loopS (α:=Nat) 27 (fun i=>[(0,.c (.slice (A07 a) .none)),(1,.c (.slice (A07 b) .none)),(5,.c (.int .i64 (i:Int)))]) (fun i=>[]) (fun i=>i≤a.length∧a.take i=b.take i) (fun i=>a.length-i) (0) (hk:=A0r.headL 0 27 [0,1,5] zW) (h0:=?_) (round:=fun i hI=>?_)
 ·exact ⟨Xj _,rfl⟩
 ·obtain ⟨hi,hI2⟩:=hI;by_cases hlt:i<a.length
  ·have hltI:(i:Int)<(a.length:Int):=by omega
   have hib:i<b.length:=by omega
   have hltJ:(i:Int)<(b.length:Int):=by omega
   have e0:=Qq hlt;have f0:=Qq hib;have e1:=A0V e0;have f1:=A0V f0;have hS:=B2f a[i] b[i] (hal _ (Xw hlt)) (hbl _ (Xw hib));have t1:a.take (i+1)=a.take i++[a[i]]:=XQ hlt;have t2:b.take (i+1)=b.take i++[b[i]]:=XQ hib;generalize a[i]=x at*;generalize b[i]=y at*;by_cases hxy:x=y
   ·rw [decide_eq_true hxy] at hS;refine zR (zc @hltI (zc @hltJ (zc @A0q (zc @e1 (zc @f1 Qw6))))) (zc hS Qw6) Qw6 ?_;refine ⟨i+1,A0r.headN 0 27 [0,1,5] zW,?_,?_⟩
    ·exact ⟨hlt,by rw [t1,t2,hI2,hxy]⟩
    ·omega
   ·rw [decide_eq_false hxy] at hS;rw [decide_eq_false (fun e=>hxy (by subst e; rw [e0] at f0; exact Vx f0))];refine zR (zc @hltI (zc @hltJ (zc @A0q (zc @e1 (zc @f1 Qw6))))) (zc hS Qw6) Qw6 ?_;simp [A0y,A0x,Blk.cells,ty,Tryz.results31,A0s,A0u,toT,A0e,A0b,A0c,A0a,A01]
  ·have ei:i=a.length:=by omega
   have heq:a=b:=by
    rw [ZX (by omega),ZX (by omega)] at hI2;exact hI2
   rw [decide_eq_true heq];have hnl: ¬((i:Int)<(a.length:Int)):=by omega
   refine zR (zc @hnl (zc @A0q Qw6)) Qw6 Qw6 ?_;simp [A0y,A0x,Blk.cells,ty,Tryz.results31,A0s,A0u,toT,A0e,A0b,A0c,A0a,A01]
theorem A2T {m f i j:Nat} (h:i<m):A5G m (.fn f [.ptr i j]):=fun c hc=>by rw [Zz] at hc; subst hc; exact h
noncomputable def B0R (d:List Int) (s:List Nat):Int:=(s.map fun v=>d.getD v 0).sum
theorem B8J (d:List Int) {s:List Nat} {i v:Nat} (h:s[i]? =some v):B0R d (s.take (i+1))=B0R d (s.take i)+d.getD v 0:=by
 unfold B0R;rw [List.take_add_one,h,WW,List.sum_append]; simp
theorem B8K {d:List Int} (hd: ∀v,v<d.length-> -1000000000000≤d.getD v 0∧d.getD v 0≤1000000000000): ∀{s:List Nat},(∀v,v∈s->v<d.length)-> -1000000000000*(s.length:Int)≤B0R d s∧B0R d s≤1000000000000*(s.length:Int)
 | [],_=>by simp [B0R]
 | v::s,h=>by
  have h1:=hd v (h v List.mem_cons_self);have h2:=B8K hd (s:=s) fun x hx=>h x (YZ _ hx);have e:B0R d (v::s)=d.getD v 0+B0R d s:=by simp [B0R]
  rw [e,List.length_cons]; omega
theorem B5V (d:List Int) (hdl:d.length≤4096) (hd: ∀v,v<d.length-> -1000000000000≤d.getD v 0∧d.getD v 0≤1000000000000) (s:List Nat) (hs: ∀v,v∈s->v<d.length) (hl:s.length≤4096) {H:List Blk} (n:Int) (es:List E) (hH:H=[.box [.int .i64 n,.slice (A0f es) .none],.box [.slice (A0o d) .none],.box [.bool false],.box [.fn 108 [.ptr 1 0]]]):
  ACallH Tryz.prog 108 H [.c (.slice (A0o (zI s)) .none),.c (.ptr 1 0)] H (.c (.int .i64 (B0R d s))):=by
 subst hH;have hzl:=A6f s;have hb:=fun i=>B8K hd (s:=s.take i) fun v hv=>hs v (VJ hv);refine ACallH.of_body Tryz.func108 rfl (by kernel_rfl) ?_;simp only [entry,Tryz.ntmps108,List.length_cons,List.length_nil,Nat.reduceAdd,Nat.reduceSub,List.replicate_succ,List.replicate_zero,List.cons_append,List.nil_append];refine zR (zc @A0d (zc @hzl Qw6)) Qw6 Qw6 ?_;refine AWp.loopS (α:=Nat) 21 (fun i=>[(1,.c (.ptr 1 0)),(4,.c (.int .i64 (B0R d (s.take i)))),(7,.c (.slice (A0o (zI s)) .none)),(8,.c (.int .i64 (s.length:Int))),(9,.c (.int .i64 (i:Int)))]) (fun i=>[.box [.int .i64 n,.slice (A0f es) .none],.box [.slice (A0o d) .none],.box [.bool false],.box [.fn 108 [.ptr 1 0]]]) (fun i=>i≤s.length) (fun i=>s.length-i) (0) (hk:=A0r.headL 4 21 [1,4,7,8,9] (by (repeat' (first | exact A0n _ | exact A0v _ | exact A0h _ | refine Qw5 ?_ ?_ | refine A0i ?_ ?_ | refine A0l ?_ ?_ | refine A0g ?_ ?_ | exact Qw4 | exact A2T (by omega) | (show _<_; omega) | exact A0p (fun _=>Qw4) | (intro c hc; cases hc; done) | (intro c hc; simp only [Qw,Qk,or_false] at hc; subst hc; first | exact Qw4 | exact A2T (by omega) | (show _<_; omega)) | (intro c hc; simp only [Qw,Qk,or_false] at hc; rcases hc with rfl | rfl<;>first | exact Qw4 | exact A2T (by omega) | (show _<_; omega)))))) (h0:=?_) (round:=fun i hI=>?_)
 ·exact Xj _
 ·have hi:i≤s.length:=hI;clear hI;by_cases hlt:i<s.length
  ·have hltI:(i:Int)<(s.length:Int):=by omega
   have e0:=Qq hlt;have hv:=hs _ (Xw hlt);have e1:(A0o (zI s))[i]? =some [.int .i64 (s[i]:Int)]:=by
    have:(zI s)[i]? =some (s[i]:Int):=by unfold zI; rw [QY,e0]; rfl
    exact A0t this
   have e2:(A0o d)[s[i]]? =some [.int .i64 (d.getD s[i] 0)]:=A0t (by rw [Qz,Qq hv]; rfl);have e3:=B8J d e0;have hb0:=hb i;have hb1:=hb (i+1);rw [WX] at hb0 hb1;have hvI:(s[i]:Int)<(d.length:Int):=by omega
   rw [e3] at hb1;generalize s[i]=v at*;generalize hA:B0R d (s.take (i+1))=A1 at*;generalize B0R d (s.take i)=A at*;generalize d.getD v 0=x at*;refine zR (zc @hltI (zc @A0d (zc @hzl (zc @e1 (zc @e2 (zc @hvI Qw6)))))) Qw6 Qw6 ?_;refine ⟨i+1,A0r.headN 4 21 [1,4,7,8,9] (by (repeat' (first | exact A0n _ | exact A0v _ | exact A0h _ | refine Qw5 ?_ ?_ | refine A0i ?_ ?_ | refine A0l ?_ ?_ | refine A0g ?_ ?_ | exact Qw4 | exact A2T (by omega) | (show _<_; omega) | exact A0p (fun _=>Qw4) | (intro c hc; cases hc; done) | (intro c hc; simp only [Qw,Qk,or_false] at hc; subst hc; first | exact Qw4 | exact A2T (by omega) | (show _<_; omega)) | (intro c hc; simp only [Qw,Qk,or_false] at hc; rcases hc with rfl | rfl<;>first | exact Qw4 | exact A2T (by omega) | (show _<_; omega))))),?_,?_⟩
   ·exact hlt
   ·omega
  ·have ei:i=s.length:=by omega
   rw [ei,Zk];have hnl: ¬((s.length:Int)<(s.length:Int)):=by omega
   refine zR (zc @hnl (zc @hzl Qw6)) Qw6 Qw6 ?_;simp [A4r,A1T,A0s,A1S,Tryz.results108]
theorem B32 (g:G):ACall Tryz.prog 109 [tG g] (.t (.fn 155 [.rptr [.int .i64 g.n,.slice (A0f g.es)]])):=by
 obtain ⟨n,es⟩:=g;refine ACall.of_body Tryz.func109 rfl (by kernel_rfl) ?_;simp only [entry,Tryz.ntmps109,tG];refine zU ?_;refine zR Qw6 Qw6 Qw6 ?_;simp [A0y,A0x,Blk.cells,ty,Tryz.results109,A0s,A0u,toT,A0e,A0b,A0c,A0a]
noncomputable def C3d (g:G) (w:Nat):Int:=C1j (endsL (indW g w).es)
noncomputable def okS (g:G) (d:List Int) (w:Nat):Bool:= !(decide (B0R d (setN g.n.toNat w)<C3d g w)||(decide (((setN g.n.toNat w).length:Int)=g.n)&& !decide (B0R d (setN g.n.toNat w)=C3d g w)))
noncomputable def C3e (g:G) (d:List Int):Bool:=(A54 g (2^g.n.toNat-1)).all (okS g d)
theorem C5g:A0z Tryz.prog 140=some 1:=by kernel_rfl
theorem C5h:A08 Tryz.prog 140=some .nilFunc:=by kernel_rfl
theorem B8L (g:G) (d:List Int) (hI:IndOk g) (h1:1≤g.n∧g.n≤12) (hl:g.es.length≤40) (hdl:d.length=g.n.toNat) (hd: ∀v,v<d.length-> -1000000000000≤d.getD v 0∧d.getD v 0≤1000000000000):
  ACall Tryz.prog 64 [tG g,A0m d] (A01 (C3e g d)):=by
 have hS:=B32 g;have hIt:=B30 g hI h1 hl;have hinv:=fun k ts h=>C2F (g:=g) (m:=2^g.n.toNat-1) (k:=k) (ts:=ts) h;have hlenI:=B8I g (2^g.n.toNat-1);have hsub: ∀w v,v∈setN g.n.toNat w->v<d.length:=fun w v hv=>by
  have:(v:Int)∈zI (setN g.n.toNat w):=by unfold zI; exact Xq.2 ⟨v,hv,rfl⟩
  obtain ⟨a,e,ha,-⟩:=C0K.1 this;omega
 have hsl:=fun w=>B0E g.n.toNat w;have hB:=fun w=>B5V d (by omega) hd (setN g.n.toNat w) (hsub w) (by have:=hsl w; omega) g.n g.es rfl;have hok: ∀w,okS g d w= !(decide (B0R d (setN g.n.toNat w)<C3d g w)||(decide (((setN g.n.toNat w).length:Int)=g.n)&& !decide (B0R d (setN g.n.toNat w)=C3d g w))):=fun _=>rfl;have hgw: ∀w,C1j (endsL (indW g w).es)=C3d g w:=fun _=>rfl;have hzl:=fun w=>A6f (setN g.n.toNat w);unfold C3e;simp only [hgw] at hinv;generalize okS g d=oS at*;generalize C3d g=gW at*;generalize itS g (2^g.n.toNat-1)=xs at*;generalize A54 g (2^g.n.toNat-1)=ws at*;generalize setN g.n.toNat=sN at*;clear hI hgw hsub;obtain ⟨n,es⟩:=g;simp only at*;refine ACall.of_body Tryz.func64 rfl (by kernel_rfl) ?_;simp only [entry,Tryz.ntmps64,tG,A0m];refine zU ?_;refine zR (zc @C5g (zc @C5h Qw6)) (zc hS Qw6) Qw6 ?_;refine AWp.weak (A0r.head (m:=4) (by omega) ((fun t f=>[f,f,t,f,t,t,f,f,f,f,f,t,f,f,f,f,f,f,f,f,f,f,f,f,f,f,f,f,f,f,f,f]) true false) (by first | rfl | simp [mask]) (by first | rfl | simp) (by (repeat' (first | exact A0n _ | refine A0i ?_ ?_ | refine A0g ?_ ?_ | exact A0h _ | exact Qw4 | (show _<_; omega) | (intro c hc; cases hc; done) | (intro c hc; simp only [Qw,Qk,or_false] at hc; subst hc; first | exact Qw4 | (show _<_; omega)) | (intro c hc; simp only [Qw,Qk,or_false] at hc; rcases hc with rfl | rfl<;>first | exact Qw4 | (show _<_; omega))))) (by (repeat' (first | exact A0n _ | exact A0v _ | exact A0h _ | refine Qw5 ?_ ?_ | refine A0i ?_ ?_ | refine A0l ?_ ?_ | refine A0g ?_ ?_ | exact Qw4 | exact A2T (by omega) | (show _<_; omega) | exact A0p (fun _=>Qw4) | (intro c hc; cases hc; done) | (intro c hc; simp only [Qw,Qk,or_false] at hc; subst hc; first | exact Qw4 | exact A2T (by omega) | (show _<_; omega)) | (intro c hc; simp only [Qw,Qk,or_false] at hc; rcases hc with rfl | rfl<;>first | exact Qw4 | exact A2T (by omega) | (show _<_; omega)))))) (AWp.rangeFunc (fun k H=>H=[.box [.int .i64 n,.slice (A0f es) .none],.box [.slice (A0o d) .none],.box [.bool false],.box [.fn 108 [.ptr 1 0]]]∧((ws.take k).all oS=true)) (fun e H=>e= .ret∧H=[.box [.int .i64 n,.slice (A0f es) .none],.box [.slice (A0o d) .none],.box [.bool false],.box [.fn 108 [.ptr 1 0]]]∧ws.all oS=false) 4 rfl (hIt) (fun k ts hts=>by obtain ⟨_,_,rfl⟩:=hinv _ _ hts; rfl) (by omega) (by (repeat' (first | exact A0n _ | refine A0i ?_ ?_ | refine A0g ?_ ?_ | exact A0h _ | exact Qw4 | (show _<_; omega) | (intro c hc; cases hc; done) | (intro c hc; simp only [Qw,Qk,or_false] at hc; subst hc; first | exact Qw4 | (show _<_; omega)) | (intro c hc; simp only [Qw,Qk,or_false] at hc; rcases hc with rfl | rfl<;>first | exact Qw4 | (show _<_; omega))))) (by rintro _ _ ⟨rfl,-⟩; simp) ?_ ?_ (fun l k ts H hts hI=> ?_) (fun H hI=> ?_) (fun e H hX=> ?_))
 ·rintro _ _ ⟨-,rfl,-⟩; simp
 ·exact ⟨rfl,rfl⟩
 ·obtain ⟨rfl,hp⟩:=hI;obtain ⟨w,hw,rfl⟩:=hinv _ _ hts;have hB1:=hB w;have ho:=hok w;have hz1:=hzl w;have htk:ws.take (k+1)=ws.take k++[w]:=by rw [List.take_add_one,hw]; rfl
  generalize gW w=gw at*;generalize B0R d (sN w)=sm at*;have hall:oS w=false->ws.all oS=false:=fun h=>by
   rw [List.all_eq_false];exact ⟨w,Qy hw,by rw [h]; simp⟩
  by_cases hc:sm<gw
  ·rw [decide_eq_true hc] at ho;simp only [mask,A3Y,List.zip_cons_cons,Wy,List.zip_nil_left,List.foldl_cons,List.foldl_nil,List.set_cons_succ,List.set_cons_zero,ofT,A2A,A04,Xy,XV,ofT,A2A,toT,A0u,A0a,A0k,A01,A2W,tG,A0C,A0m,A1i];refine zJ Qw6 (zc @hc Qw6) Qw6 (zc hB1 Qw6) Qw6 ?_;refine ⟨_,A0r.refl _ _,rfl,rfl,hall ho⟩
  ·rw [decide_eq_false hc] at ho;by_cases h2:((sN w).length:Int)=n
   ·rw [decide_eq_true h2] at ho;by_cases h3:sm=gw
    ·rw [decide_eq_true h3] at ho;simp only [mask,A3Y,List.zip_cons_cons,Wy,List.zip_nil_left,List.foldl_cons,List.foldl_nil,List.set_cons_succ,List.set_cons_zero,ofT,A2A,A04,Xy,XV,ofT,A2A,toT,A0u,A0a,A0k,A01,A2W,tG,A0C,A0m,A1i];refine zJ Qw6 (zc @hc (zc @h2 (zc @h3 (zc @A0d (zc @hz1 Qw6))))) Qw6 (zc hB1 Qw6) Qw6 ?_;refine ⟨⟨_,_⟩,A0r.head2 (m:=4) (by decide) ((fun t f=>[f,f,f,f,f,f,f,f,f,f,f,f,f,f,f,f,f,f,f,f,f,f,f,f,f,f,f,f,f,f,f,f]) true false) rfl rfl (by (repeat' (first | exact A0n _ | exact A0v _ | exact A0h _ | refine Qw5 ?_ ?_ | refine A0i ?_ ?_ | refine A0l ?_ ?_ | refine A0g ?_ ?_ | exact Qw4 | exact A2T (by omega) | (show _<_; omega) | exact A0p (fun _=>Qw4) | (intro c hc; cases hc; done) | (intro c hc; simp only [Qw,Qk,or_false] at hc; subst hc; first | exact Qw4 | exact A2T (by omega) | (show _<_; omega)) | (intro c hc; simp only [Qw,Qk,or_false] at hc; rcases hc with rfl | rfl<;>first | exact Qw4 | exact A2T (by omega) | (show _<_; omega))))),?_,?_⟩
     ·rfl
     ·rw [htk,List.all_append,hp,List.all_cons,ho]; rfl
    ·rw [decide_eq_false h3] at ho;simp only [mask,A3Y,List.zip_cons_cons,Wy,List.zip_nil_left,List.foldl_cons,List.foldl_nil,List.set_cons_succ,List.set_cons_zero,ofT,A2A,A04,Xy,XV,ofT,A2A,toT,A0u,A0a,A0k,A01,A2W,tG,A0C,A0m,A1i];refine zJ Qw6 (zc @hc (zc @h2 (zc @h3 (zc @A0d (zc @hz1 Qw6))))) Qw6 (zc hB1 Qw6) Qw6 ?_;refine ⟨_,A0r.refl _ _,rfl,rfl,hall ho⟩
   ·rw [decide_eq_false h2] at ho;simp only [mask,A3Y,List.zip_cons_cons,Wy,List.zip_nil_left,List.foldl_cons,List.foldl_nil,List.set_cons_succ,List.set_cons_zero,ofT,A2A,A04,Xy,XV,ofT,A2A,toT,A0u,A0a,A0k,A01,A2W,tG,A0C,A0m,A1i];refine zJ Qw6 (zc @hc (zc @h2 (zc @A0d (zc @hz1 Qw6)))) Qw6 (zc hB1 Qw6) Qw6 ?_;refine ⟨⟨_,_⟩,A0r.head2 (m:=4) (by decide) ((fun t f=>[f,f,f,f,f,f,f,f,f,f,f,f,f,f,f,f,f,f,f,f,f,f,f,f,f,f,f,f,f,f,f,f]) true false) rfl rfl (by (repeat' (first | exact A0n _ | exact A0v _ | exact A0h _ | refine Qw5 ?_ ?_ | refine A0i ?_ ?_ | refine A0l ?_ ?_ | refine A0g ?_ ?_ | exact Qw4 | exact A2T (by omega) | (show _<_; omega) | exact A0p (fun _=>Qw4) | (intro c hc; cases hc; done) | (intro c hc; simp only [Qw,Qk,or_false] at hc; subst hc; first | exact Qw4 | exact A2T (by omega) | (show _<_; omega)) | (intro c hc; simp only [Qw,Qk,or_false] at hc; rcases hc with rfl | rfl<;>first | exact Qw4 | exact A2T (by omega) | (show _<_; omega))))),?_,?_⟩
    ·rfl
    ·rw [htk,List.all_append,hp,List.all_cons,ho]; rfl
 ·obtain ⟨rfl,hp⟩:=hI;rw [hlenI,Zk] at hp;rw [hp];simp only [mask];refine zR Qw6 Qw6 Qw6 ?_;simp [A0y,A0x,Blk.cells,ty,Tryz.results64,A0s,A0u,toT,A0e,A0b,A0c,A0a,A01]
 ·obtain ⟨rfl,rfl,hp⟩:=hX;rw [hp];simp only [A10,A20,mask];simp [A0y,A0x,Blk.cells,ty,Tryz.results64,A0s,A0u,toT,A0e,A0b,A0c,A0a,A01]
end Go.Proofs.YtdbdfkohpjefjaaGreat
