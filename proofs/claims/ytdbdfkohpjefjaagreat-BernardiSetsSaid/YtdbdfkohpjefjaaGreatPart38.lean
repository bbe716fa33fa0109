/- A part of the proof. -/
import Derived.Test.YtdbdfkohpjefjaaGreatPart34
import Derived.Test.YtdbdfkohpjefjaaGreatPart36
set_option linter.all false
set_option maxHeartbeats 4000000
set_option maxRecDepth 100000
namespace Go.Proofs.YtdbdfkohpjefjaaGreat
open Go.Sp
theorem A9S (g:G) (hl:g.es.length≤40):ACall Tryz.prog 78 [tG g] (A0m (A0s g)):=by
 have hC:=A3q g (by omega);by_cases hc:checkG g=0
 ·rw [hc] at hC;cases hb:connB g with
  | false=>
   have e:A0s g=13:=by unfold A0s; rw [if_neg (fun q=>q hc),if_neg (by rw [hb]; simp)]
   rw [e];rw [hb] at hC;obtain ⟨n,es⟩:=g;have hC2:ACall Tryz.prog 129 [tG ⟨n,es⟩] (.tup [A0v false,A0m 0]):=hC;refine ACall.of_body Tryz.func78 rfl (by kernel_rfl) ?_;simp only [entry,Tryz.ntmps78,tG];refine zU ?_;refine zR Qw8 (zc hC2 Qw8) Qw8 ?_;simp [A0z,A0y,Blk.cells,ty,Tryz.results78,A0t,A0u,toT,A0d,A0b,A0c,A0a,A0m]
  | true=>
   have e:A0s g=0:=by unfold A0s; rw [if_neg (fun q=>q hc),if_pos hb]
   rw [e];rw [hb] at hC;obtain ⟨n,es⟩:=g;have hC2:ACall Tryz.prog 129 [tG ⟨n,es⟩] (.tup [A0v true,A0m 0]):=hC;refine ACall.of_body Tryz.func78 rfl (by kernel_rfl) ?_;simp only [entry,Tryz.ntmps78,tG];refine zU ?_;refine zR Qw8 (zc hC2 Qw8) Qw8 ?_;simp [A0z,A0y,Blk.cells,ty,Tryz.results78,A0t,A0u,toT,A0d,A0b,A0c,A0a,A0m]
 ·have e:A0s g=checkG g:=if_pos hc;have hC2:ACall Tryz.prog 129 [tG g] (.tup [A0v false,A0m (checkG g)]):=by
   rw [decide_eq_false hc] at hC; exact hC
  rw [e];clear hC;generalize checkG g=er at*;obtain ⟨n,es⟩:=g;refine ACall.of_body Tryz.func78 rfl (by kernel_rfl) ?_;simp only [entry,Tryz.ntmps78,tG];refine zU ?_;refine zR (zc @hc Qw8) (zc hC2 Qw8) Qw8 ?_;simp [A0z,A0y,Blk.cells,ty,Tryz.results78,A0t,A0u,toT,A0d,A0b,A0c,A0a,A0m]
noncomputable def indW (g:G) (w:Nat):G:=B5z g (zI (setN g.n.toNat w))
noncomputable def B47 (g:G) (w:Nat):Bool:=connB (indW g w)
noncomputable def A4H (g:G) (k:Nat):List Nat:=((List.range k).map (·+1)).filter (B47 g)
noncomputable def itS (g:G) (k:Nat):List (List TVal):=(A4H g k).map fun w=>[A0n (zI (setN g.n.toNat w)),A0m (B7z (endsL (indW g w).es))]
theorem A6R (g:G) (k:Nat):A4H g (k+1)=if B47 g (k+1)=true then A4H g k++[k+1] else A4H g k:=by
 unfold A4H;rw [Ww,WY,VV];cases h:B47 g (k+1)<;>simp [h]
theorem B8N (g:G) (k:Nat):(itS g k).length=(A4H g k).length:=by simp [itS]
theorem C2X (g:G) {k m:Nat} (h:k≤m): ∃r,A4H g m=A4H g k++r:=by
 obtain ⟨d,rfl⟩: ∃d,m=k+d:=⟨m-k,by omega⟩;clear h
 induction d with
 | zero=>exact ⟨[],by simp⟩
 | succ d ih=>
  obtain ⟨r,hr⟩:=ih;rw [<-Wx,A6R,hr];split
  ·exact ⟨r++[k+d+1],by simp⟩
  ·exact ⟨r,rfl⟩
theorem C2Y (g:G) {k m:Nat} (h:k+1≤m) (hc:B47 g (k+1)=true):(itS g m)[(A4H g k).length]? =some [A0n (zI (setN g.n.toNat (k+1))),A0m (B7z (endsL (indW g (k+1)).es))]:=by
 obtain ⟨r,hr⟩:=C2X g h;have hs:=A6R g k;rw [if_pos hc] at hs;unfold itS;rw [QY,hr,hs,Zj,QJ (QQ _),Jz];rfl
theorem C2Z {g:G} {m k:Nat} {ts:List TVal} (h:(itS g m)[k]? =some ts): ∃w,(A4H g m)[k]? =some w∧ts=[A0n (zI (setN g.n.toNat w)),A0m (B7z (endsL (indW g w).es))]:=by
 unfold itS at h;rw [QY] at h;cases hx:(A4H g m)[k]? with
 | none=>rw [hx] at h; cases h
 | some w=>rw [hx] at h; exact ⟨w,rfl,(VY h).symm⟩
structure IndOk (g:G):Prop where
 ind: ∀w,1≤w->w<2^g.n.toNat->indE g (zI (setN g.n.toNat w))=0
 chk: ∀w,1≤w->w<2^g.n.toNat->checkG (indW g w)=0
 len: ∀w,1≤w->w<2^g.n.toNat->(indW g w).es.length≤40
theorem B33 (g:G) (hI:IndOk g) (h1:1≤g.n∧g.n≤12) (hl:g.es.length≤40):AIter Tryz.prog 155 [.rptr [.int .i64 g.n,.slice (A0f g.es)]] (itS g (2^g.n.toNat-1)):=by
 obtain ⟨n,hn⟩:=XV (show 0≤g.n by omega);have hn12:n≤12:=by omega
 have hpw:=C5d hn12;have hsl:=C50 n hn12;have hgn:g.n.toNat=n:=by omega
 have hget:=fun k h hc=>C2Y g (k:=k) (m:=2^g.n.toNat-1) h hc;have hlenI:=B8N g (2^g.n.toNat-1);have hsu:=A6R g;have hs0:(A4H g 0).length=0:=rfl;have hi:=hI.ind;have hck:=hI.chk;have hil:=hI.len;have hind:=fun w=>A9E g (zI (setN g.n.toNat w)) (by omega) (by rw [A2d]; have:=A28 g.n.toNat w; omega);have hdW: ∀w,B5z g (zI (setN g.n.toNat w))=indW g w:=fun _=>rfl;have hcw: ∀w,B47 g w=connB (indW g w):=fun _=>rfl;simp only [hdW] at hind;rw [hgn] at*;generalize itS g (2^n-1)=xs at*;generalize B47 g=cW at*;generalize A4H g=sW at*;generalize indW g=iW at*;clear hI hdW;obtain ⟨nI,es⟩:=g;simp only at hn hl h1 ⊢;subst hn;have hn0:0≤(n:Int):=by omega
 have hr1:(-9223372036854775808:Int)≤((2^n:Nat):Int)∧((2^n:Nat):Int)≤9223372036854775807:=by omega
 refine AIter.of_body Tryz.func155 rfl (by kernel_rfl) rfl (fun l J Jx hJ hJx hY=> ?_);simp only [entry,Tryz.ntmps155,ofT,A2G,A03,Xy,Zx,List.length_cons,List.length_nil,Nat.reduceAdd,Nat.reduceSub,List.replicate_succ,List.replicate_zero,List.cons_append,List.nil_append];refine zR Qw8 Qw8 Qw8 ?_;generalize hP:2^n=P at*;rw [show J 0=J (sW 0).length by rw [hs0]];refine AWp.loopS (α:=Nat) 59 (fun k=>[(0,.c (.yld l)),(1,.c (.rptr [.int .i64 (n:Int),.slice (A0f es)])),(3,.c (.int .i64 ((k+1:Nat):Int)))]) (fun k=>[.ghost (J (sW k).length)]) (fun k=>k+1≤P) (fun k=>P-k) (0) (hk:=Weak.headL 1 59 [0,1,3] zW) (h0:=?_) (round:=fun k hI=>?_)
 ·omega
 ·have hk:k+1≤P:=hI;clear hI;by_cases hkl:k+1<P
  ·have hkI:((k+1:Nat):Int)<(P:Int):=by omega
   have hind1:=hind (k+1);rw [hi (k+1) (by omega) hkl] at hind1;have hck1:=hck (k+1) (by omega) hkl;have hil1:=hil (k+1) (by omega) hkl;have hC:=A3q (iW (k+1)) (by omega);rw [hck1] at hC;have hG:=B4e (iW (k+1)) (by omega);rw [hck1,if_neg (by decide)] at hG;have hcw1:=hcw (k+1);have hsu1:=hsu k;have hget1:=hget k (by omega);generalize hw:k+1=w at*;have hwb:w<2^40:=by omega
   have hz0:zI (setN 0 w)=[]:=rfl;refine zJ (stop 5) (zc @hkI (zc @hsl (zc @hn0 Qw8))) Qw8 Qw8 Qw8 ?_;refine AWp.weak (Weak.opens ((fun t f=>[f,f,f,f,t,f,f,f,f,f,f,f,f,f,f,f,f,f,f,f,f,f,f,f,f,f,f,f,f,f,f,f,f,f,f,f,f,f,f,f,f,f,f,f,f,f,f,f,f,f,f,f,f,f,f,f,f,f,f]) true false) 1 (by first | omega | simp)) ?_;simp only [A2i,A66,List.length_cons,List.length_nil,Xw,Nat.reduceAdd,List.cons_append,List.nil_append];refine AWp.loopS (α:=Nat) 59 (fun v=>[(0,.c (.yld l)),(1,.c (.rptr [.int .i64 (n:Int),.slice (A0f es)])),(3,.c (.int .i64 (w:Int))),(4,.c (.slice (A0o (zI (setN v w))) (.chain 1))),(20,.c (.int .i64 (n:Int))),(21,.c (.int .i64 (v:Int)))]) (fun v=>[.ghost (J (sW k).length),.chain (setN v w).length 1]) (fun v=>v≤n) (fun v=>n-v) (0) (hk:=Weak.headL 2 59 [0,1,3,4,20,21] zW) (h0:=?_) (round:=fun v hI=>?_)
   ·exact Xj _
   ·have hv:v≤n:=hI;clear hI;by_cases hvl:v<n
    ·have hvI:(v:Int)<(n:Int):=by omega
     have hv0:0≤(v:Int):=by omega
     have hss:=A4D v w;have hsl2:=A28 v w;have hsh:=C5y w v (by omega);have hdl:w / 2^v≤w:=Nat.div_le_self _ _;have han:=C5z (w / 2^v) (by omega);have hb:B0V w v=w / 2^v%2:=rfl;rw [hb] at hss;generalize w / 2^v=x at*;by_cases hp:x%2=1
     ·rw [if_pos hp] at hss;have hpI:((x%2:Nat):Int)=1:=by omega
      have hzs:=B0A (setN v w) v;rw [<-hss] at hzs;have hln:(setN (v+1) w).length=(setN v w).length+1:=by rw [hss]; simp
      generalize setN v w=d at*;refine zRc (zc @hvI (zc @hv0 (zc @hsh (zc @han (zc @hpI (zc @A0e (zc @A1O (zc @A2d Qw8)))))))) Qw8 @A1s ?_;rw [hzs];refine ⟨v+1,Weak.headF 2 59 [0,1,3,4,20,21] (zc @hln Qw8) zW,?_,?_⟩
      ·exact hvl
      ·omega
     ·rw [if_neg hp] at hss;have hpI: ¬((x%2:Nat):Int)=1:=by omega
      refine zR (zc @hvI (zc @hv0 (zc @hsh (zc @han (zc @hpI (zc @A0e (zc @A2d Qw8))))))) Qw8 Qw8 ?_;rw [<-hss];refine ⟨v+1,Weak.headN 2 59 [0,1,3,4,20,21] zW,?_,?_⟩
      ·exact hvl
      ·omega
    ·have hnl: ¬(v:Int)<(n:Int):=by omega
     have ev:v=n:=by omega
     rw [ev];rw [ev] at hnl;cases hcb:cW w with
     | false=>
      rw [<-hcw1,hcb,show (decide ((0:Int)=0)&&false)=false from rfl] at hC;rw [hcb] at hsu1;simp only [YQ,if_false] at hsu1;generalize iW w=H at*;obtain ⟨hn',hes⟩:=H;refine zR (zc @hnl Qw8) (zc hind1 (zc hC Qw8)) Qw8 ?_;rw [<-hsu1];refine ⟨w,Weak.headN 1 59 [0,1,3] zW,?_,?_⟩
      ·exact hkl
      ·omega
     | true=>
      rw [<-hcw1,hcb,show (decide ((0:Int)=0)&&true)=true from rfl] at hC;rw [hcb,if_pos rfl] at hsu1;have hg2:=hget1 hcb;have hsl3:(sW w).length=(sW k).length+1:=by rw [hsu1]; simp
      generalize iW w=H at*;obtain ⟨hn',hes⟩:=H;simp only at hg2 hG;generalize B7z (endsL hes)=gen at*
      repeat' (first|((with_reducible refine AWp.seq (AWp.of_reg (id:=15) (AReg.pre 3 (fun K hK=>?_))));simp only [List.take_succ_cons,List.take_zero])|((with_reducible refine AWp.of_reg (id:=15) (AReg.pre 3 (fun K hK=>?_)));simp only [List.take_succ_cons,List.take_zero])|((first|(refine zT ?_;intro K' hK')|(refine zG ?_ ?_<;>(try refine zH ?_)<;>intro hguard<;>(try exact zX)<;>try intro K' hK'))<;>((try simp+contextual only [go_sem,hnl]);(repeat' first|(with_reducible refine hK' _ _ ?_;clear hK' K')|((with_reducible first|refine zK hind1 ?_|refine zK hC ?_|refine zK hG ?_);try simp+contextual only [go_sem,hnl])|exact zY|with_reducible refine Qw7 ?_ ?_|(with_reducible intro hpath;try exact zP)|(refine hK' _ _ ?_;clear hK' K')|fail);try refine zS ?_))|(refine zE ?_;refine hK _ _ ?_;clear hK K)|(refine zN ?_;try refine zS ?_)|refine zA ?_|(refine zB ?_;intro K hK)|(refine zC ?_ ?_<;>(try refine zH ?_)<;>intro hcond<;>try exact zX)|fail)
      simp only [Zk,ZJ];refine AReg.yield rfl rfl rfl (by rfl) (by with_unfolding_all rfl) (by simp [okBlk]) (hY _ _ hg2) (hJ _) hJx ?_ ?_<;>(try refine zS ?_)<;>refine AReg.rest (fun K hK=> ?_)
      ·
       rw [<-hsl3]
       repeat' (first|((first|(refine zT ?_;intro K' hK')|(refine zG ?_ ?_<;>(try refine zH ?_)<;>intro hguard<;>(try exact zX)<;>try intro K' hK'))<;>((try simp+contextual only [go_sem]);(repeat' first|(with_reducible refine hK' _ _ ?_;clear hK' K')|exact zY|with_reducible refine Qw7 ?_ ?_|(with_reducible intro hpath;try exact zP)|(refine hK' _ _ ?_;clear hK' K')|fail);try refine zS ?_))|(refine zE ?_;refine hK _ _ ?_;clear hK K)|(refine zN ?_;try refine zS ?_)|refine zA ?_|(refine zB ?_;intro K hK)|(refine zC ?_ ?_<;>(try refine zH ?_)<;>intro hcond<;>try exact zX)|fail)
       refine ⟨w,Weak.headN 1 59 [0,1,3] zW,?_,?_⟩
       ·exact hkl
       ·omega
      ·
       repeat' (first|((first|(refine zT ?_;intro K' hK')|(refine zG ?_ ?_<;>(try refine zH ?_)<;>intro hguard<;>(try exact zX)<;>try intro K' hK'))<;>((try simp+contextual only [go_sem]);(repeat' first|(with_reducible refine hK' _ _ ?_;clear hK' K')|exact zY|with_reducible refine Qw7 ?_ ?_|(with_reducible intro hpath;try exact zP)|(refine hK' _ _ ?_;clear hK' K')|fail);try refine zS ?_))|(refine zE ?_;refine hK _ _ ?_;clear hK K)|(refine zN ?_;try refine zS ?_)|refine zA ?_|(refine zB ?_;intro K hK)|(refine zC ?_ ?_<;>(try refine zH ?_)<;>intro hcond<;>try exact zX)|fail)
       exact ⟨Qw6,_,.inr rfl⟩
  ·have hnl: ¬((k+1:Nat):Int)<(P:Int):=by omega
   have ek:k=P-1:=by omega
   refine zR (zc @hnl (zc @hsl (zc @hn0 Qw8))) Qw8 Qw8 ?_;exact ⟨Qw6,_,.inl (by rw [hlenI,ek])⟩
theorem A2Y {m f i j:Nat} (h:i<m):A5J m (.fn f [.ptr i j]):=fun c hc=>by rw [XJ] at hc; subst hc; exact h
noncomputable def A5j (d:List Int) (s:List Nat):Int:=(s.map fun v=>d.getD v 0).sum
theorem A8G (d:List Int) {s:List Nat} {i v:Nat} (h:s[i]? =some v):A5j d (s.take (i+1))=A5j d (s.take i)+d.getD v 0:=by
 unfold A5j;rw [List.take_add_one,h,WY,List.sum_append]; simp
theorem B8O {d:List Int} (hd: ∀v,v<d.length-> -1000000000000≤d.getD v 0∧d.getD v 0≤1000000000000): ∀{s:List Nat},(∀v,v∈s->v<d.length)-> -1000000000000*(s.length:Int)≤A5j d s∧A5j d s≤1000000000000*(s.length:Int)
 | [],_=>by simp [A5j]
 | v::s,h=>by
  have h1:=hd v (h v List.mem_cons_self);have h2:=B8O hd (s:=s) fun x hx=>h x (YZ _ hx);have e:A5j d (v::s)=d.getD v 0+A5j d s:=by simp [A5j]
  rw [e,List.length_cons]; omega
theorem B5Z (d:List Int) (hdl:d.length≤4096) (hd: ∀v,v<d.length-> -1000000000000≤d.getD v 0∧d.getD v 0≤1000000000000) (s:List Nat) (hs: ∀v,v∈s->v<d.length) (hl:s.length≤4096) {H:List Blk} (n:Int) (es:List E) (hH:H=[.box [.int .i64 n,.slice (A0f es) .none],.box [.slice (A0o d) .none],.box [.bool false],.box [.fn 108 [.ptr 1 0]]]):
  ACallH Tryz.prog 108 H [.c (.slice (A0o (zI s)) .none),.c (.ptr 1 0)] H (.c (.int .i64 (A5j d s))):=by
 subst hH;have hzl:=A2d s;have hb:=fun i=>B8O hd (s:=s.take i) fun v hv=>hs v (Vv hv);refine ACallH.of_body Tryz.func108 rfl (by kernel_rfl) ?_;simp only [entry,Tryz.ntmps108,List.length_cons,List.length_nil,Nat.reduceAdd,Nat.reduceSub,List.replicate_succ,List.replicate_zero,List.cons_append,List.nil_append];refine zR (zc @A0e (zc @hzl Qw8)) Qw8 Qw8 ?_;refine AWp.loopS (α:=Nat) 21 (fun i=>[(1,.c (.ptr 1 0)),(4,.c (.int .i64 (A5j d (s.take i)))),(7,.c (.slice (A0o (zI s)) .none)),(8,.c (.int .i64 (s.length:Int))),(9,.c (.int .i64 (i:Int)))]) (fun i=>[.box [.int .i64 n,.slice (A0f es) .none],.box [.slice (A0o d) .none],.box [.bool false],.box [.fn 108 [.ptr 1 0]]]) (fun i=>i≤s.length) (fun i=>s.length-i) (0) (hk:=Weak.headL 4 21 [1,4,7,8,9] (by (repeat' (first | exact A0l _ | exact A0r _ | exact A0h _ | refine Qw7 ?_ ?_ | refine A0i ?_ ?_ | refine A0k ?_ ?_ | refine A0g ?_ ?_ | exact Qw6 | exact A2Y (by omega) | (show _<_; omega) | exact A0p (fun _=>Qw6) | (intro c hc; cases hc; done) | (intro c hc; simp only [Qw,Qv,or_false] at hc; subst hc; first | exact Qw6 | exact A2Y (by omega) | (show _<_; omega)) | (intro c hc; simp only [Qw,Qv,or_false] at hc; rcases hc with rfl | rfl<;>first | exact Qw6 | exact A2Y (by omega) | (show _<_; omega)))))) (h0:=?_) (round:=fun i hI=>?_)
 ·exact Xj _
 ·have hi:i≤s.length:=hI;clear hI;by_cases hlt:i<s.length
  ·have hltI:(i:Int)<(s.length:Int):=by omega
   have e0:=Qq hlt;have hv:=hs _ (Xv hlt);have e1:(A0o (zI s))[i]? =some [.int .i64 (s[i]:Int)]:=by
    have:(zI s)[i]? =some (s[i]:Int):=by unfold zI; rw [QY,e0]; rfl
    exact A0w this
   have e2:(A0o d)[s[i]]? =some [.int .i64 (d.getD s[i] 0)]:=A0w (by rw [Qz,Qq hv]; rfl);have e3:=A8G d e0;have hb0:=hb i;have hb1:=hb (i+1);rw [Wz] at hb0 hb1;have hvI:(s[i]:Int)<(d.length:Int):=by omega
   rw [e3] at hb1;generalize s[i]=v at*;generalize hA:A5j d (s.take (i+1))=A1 at*;generalize A5j d (s.take i)=A at*;generalize d.getD v 0=x at*;refine zR (zc @hltI (zc @A0e (zc @hzl (zc @e1 (zc @e2 (zc @hvI Qw8)))))) Qw8 Qw8 ?_;refine ⟨i+1,Weak.headN 4 21 [1,4,7,8,9] (by (repeat' (first | exact A0l _ | exact A0r _ | exact A0h _ | refine Qw7 ?_ ?_ | refine A0i ?_ ?_ | refine A0k ?_ ?_ | refine A0g ?_ ?_ | exact Qw6 | exact A2Y (by omega) | (show _<_; omega) | exact A0p (fun _=>Qw6) | (intro c hc; cases hc; done) | (intro c hc; simp only [Qw,Qv,or_false] at hc; subst hc; first | exact Qw6 | exact A2Y (by omega) | (show _<_; omega)) | (intro c hc; simp only [Qw,Qv,or_false] at hc; rcases hc with rfl | rfl<;>first | exact Qw6 | exact A2Y (by omega) | (show _<_; omega))))),?_,?_⟩
   ·exact hlt
   ·omega
  ·have ei:i=s.length:=by omega
   rw [ei,Zw];have hnl: ¬((s.length:Int)<(s.length:Int)):=by omega
   refine zR (zc @hnl (zc @hzl Qw8)) Qw8 Qw8 ?_;simp [A4y,A1S,A0t,A1R,Tryz.results108]
theorem B34 (g:G):ACall Tryz.prog 109 [tG g] (.t (.fn 155 [.rptr [.int .i64 g.n,.slice (A0f g.es)]])):=by
 obtain ⟨n,es⟩:=g;refine ACall.of_body Tryz.func109 rfl (by kernel_rfl) ?_;simp only [entry,Tryz.ntmps109,tG];refine zU ?_;refine zR Qw8 Qw8 Qw8 ?_;simp [A0z,A0y,Blk.cells,ty,Tryz.results109,A0t,A0u,toT,A0d,A0b,A0c,A0a]
noncomputable def B2v (g:G) (w:Nat):Int:=B7z (endsL (indW g w).es)
noncomputable def okS (g:G) (d:List Int) (w:Nat):Bool:= !(decide (A5j d (setN g.n.toNat w)<B2v g w)||(decide (((setN g.n.toNat w).length:Int)=g.n)&& !decide (A5j d (setN g.n.toNat w)=B2v g w)))
noncomputable def B6a (g:G) (d:List Int):Bool:=(A4H g (2^g.n.toNat-1)).all (okS g d)
theorem C5B:A00 Tryz.prog 140=some 1:=by kernel_rfl
theorem C5C:A07 Tryz.prog 140=some .nilFunc:=by kernel_rfl
theorem B2e (g:G) (d:List Int) (hI:IndOk g) (h1:1≤g.n∧g.n≤12) (hl:g.es.length≤40) (hdl:d.length=g.n.toNat) (hd: ∀v,v<d.length-> -1000000000000≤d.getD v 0∧d.getD v 0≤1000000000000):
  ACall Tryz.prog 64 [tG g,A0n d] (A0v (B6a g d)):=by
 have hS:=B34 g;have hIt:=B33 g hI h1 hl;have hinv:=fun k ts h=>C2Z (g:=g) (m:=2^g.n.toNat-1) (k:=k) (ts:=ts) h;have hlenI:=B8N g (2^g.n.toNat-1);have hsub: ∀w v,v∈setN g.n.toNat w->v<d.length:=fun w v hv=>by
  have:(v:Int)∈zI (setN g.n.toNat w):=by unfold zI; exact Xq.2 ⟨v,hv,rfl⟩
  obtain ⟨a,e,ha,-⟩:=B42.1 this;omega
 have hsl:=fun w=>A28 g.n.toNat w;have hB:=fun w=>B5Z d (by omega) hd (setN g.n.toNat w) (hsub w) (by have:=hsl w; omega) g.n g.es rfl;have hok: ∀w,okS g d w= !(decide (A5j d (setN g.n.toNat w)<B2v g w)||(decide (((setN g.n.toNat w).length:Int)=g.n)&& !decide (A5j d (setN g.n.toNat w)=B2v g w))):=fun _=>rfl;have hgw: ∀w,B7z (endsL (indW g w).es)=B2v g w:=fun _=>rfl;have hzl:=fun w=>A2d (setN g.n.toNat w);unfold B6a;simp only [hgw] at hinv;generalize okS g d=oS at*;generalize B2v g=gW at*;generalize itS g (2^g.n.toNat-1)=xs at*;generalize A4H g (2^g.n.toNat-1)=ws at*;generalize setN g.n.toNat=sN at*;clear hI hgw hsub;obtain ⟨n,es⟩:=g;simp only at*;refine ACall.of_body Tryz.func64 rfl (by kernel_rfl) ?_;simp only [entry,Tryz.ntmps64,tG,A0n];refine zU ?_;refine zR (zc @C5B (zc @C5C Qw8)) (zc hS Qw8) Qw8 ?_;refine AWp.weak (Weak.head (m:=4) (by omega) ((fun t f=>[f,f,t,f,t,t,f,f,f,f,f,t,f,f,f,f,f,f,f,f,f,f,f,f,f,f,f,f,f,f,f,f]) true false) (by first | rfl | simp [mask]) (by first | rfl | simp) (by (repeat' (first | exact A0l _ | refine A0i ?_ ?_ | refine A0g ?_ ?_ | exact A0h _ | exact Qw6 | (show _<_; omega) | (intro c hc; cases hc; done) | (intro c hc; simp only [Qw,Qv,or_false] at hc; subst hc; first | exact Qw6 | (show _<_; omega)) | (intro c hc; simp only [Qw,Qv,or_false] at hc; rcases hc with rfl | rfl<;>first | exact Qw6 | (show _<_; omega))))) (by (repeat' (first | exact A0l _ | exact A0r _ | exact A0h _ | refine Qw7 ?_ ?_ | refine A0i ?_ ?_ | refine A0k ?_ ?_ | refine A0g ?_ ?_ | exact Qw6 | exact A2Y (by omega) | (show _<_; omega) | exact A0p (fun _=>Qw6) | (intro c hc; cases hc; done) | (intro c hc; simp only [Qw,Qv,or_false] at hc; subst hc; first | exact Qw6 | exact A2Y (by omega) | (show _<_; omega)) | (intro c hc; simp only [Qw,Qv,or_false] at hc; rcases hc with rfl | rfl<;>first | exact Qw6 | exact A2Y (by omega) | (show _<_; omega)))))) (AWp.rangeFunc (fun k H=>H=[.box [.int .i64 n,.slice (A0f es) .none],.box [.slice (A0o d) .none],.box [.bool false],.box [.fn 108 [.ptr 1 0]]]∧((ws.take k).all oS=true)) (fun e H=>e= .ret∧H=[.box [.int .i64 n,.slice (A0f es) .none],.box [.slice (A0o d) .none],.box [.bool false],.box [.fn 108 [.ptr 1 0]]]∧ws.all oS=false) 4 rfl (hIt) (fun k ts hts=>by obtain ⟨_,_,rfl⟩:=hinv _ _ hts; rfl) (by omega) (by (repeat' (first | exact A0l _ | refine A0i ?_ ?_ | refine A0g ?_ ?_ | exact A0h _ | exact Qw6 | (show _<_; omega) | (intro c hc; cases hc; done) | (intro c hc; simp only [Qw,Qv,or_false] at hc; subst hc; first | exact Qw6 | (show _<_; omega)) | (intro c hc; simp only [Qw,Qv,or_false] at hc; rcases hc with rfl | rfl<;>first | exact Qw6 | (show _<_; omega))))) (by rintro _ _ ⟨rfl,-⟩; simp) ?_ ?_ (fun l k ts H hts hI=> ?_) (fun H hI=> ?_) (fun e H hX=> ?_))
 ·rintro _ _ ⟨-,rfl,-⟩; simp
 ·exact ⟨rfl,rfl⟩
 ·obtain ⟨rfl,hp⟩:=hI;obtain ⟨w,hw,rfl⟩:=hinv _ _ hts;have hB1:=hB w;have ho:=hok w;have hz1:=hzl w;have htk:ws.take (k+1)=ws.take k++[w]:=by rw [List.take_add_one,hw]; rfl
  generalize gW w=gw at*;generalize A5j d (sN w)=sm at*;have hall:oS w=false->ws.all oS=false:=fun h=>by
   rw [List.all_eq_false];exact ⟨w,Qy hw,by rw [h]; simp⟩
  by_cases hc:sm<gw
  ·rw [decide_eq_true hc] at ho;simp only [mask,A4e,List.zip_cons_cons,WQ,List.zip_nil_left,List.foldl_cons,List.foldl_nil,List.set_cons_succ,List.set_cons_zero,ofT,A2G,A03,Xy,Zx,ofT,A2G,toT,A0u,A0a,A0m,A0v,A3a,tG,A0B,A0n,A0N];refine zJ Qw8 (zc @hc Qw8) Qw8 (zc hB1 Qw8) Qw8 ?_;refine ⟨_,Weak.refl _ _,rfl,rfl,hall ho⟩
  ·rw [decide_eq_false hc] at ho;by_cases h2:((sN w).length:Int)=n
   ·rw [decide_eq_true h2] at ho;by_cases h3:sm=gw
    ·rw [decide_eq_true h3] at ho;simp only [mask,A4e,List.zip_cons_cons,WQ,List.zip_nil_left,List.foldl_cons,List.foldl_nil,List.set_cons_succ,List.set_cons_zero,ofT,A2G,A03,Xy,Zx,ofT,A2G,toT,A0u,A0a,A0m,A0v,A3a,tG,A0B,A0n,A0N];refine zJ Qw8 (zc @hc (zc @h2 (zc @h3 (zc @A0e (zc @hz1 Qw8))))) Qw8 (zc hB1 Qw8) Qw8 ?_;refine ⟨⟨_,_⟩,Weak.head2 (m:=4) (by decide) ((fun t f=>[f,f,f,f,f,f,f,f,f,f,f,f,f,f,f,f,f,f,f,f,f,f,f,f,f,f,f,f,f,f,f,f]) true false) rfl rfl (by (repeat' (first | exact A0l _ | exact A0r _ | exact A0h _ | refine Qw7 ?_ ?_ | refine A0i ?_ ?_ | refine A0k ?_ ?_ | refine A0g ?_ ?_ | exact Qw6 | exact A2Y (by omega) | (show _<_; omega) | exact A0p (fun _=>Qw6) | (intro c hc; cases hc; done) | (intro c hc; simp only [Qw,Qv,or_false] at hc; subst hc; first | exact Qw6 | exact A2Y (by omega) | (show _<_; omega)) | (intro c hc; simp only [Qw,Qv,or_false] at hc; rcases hc with rfl | rfl<;>first | exact Qw6 | exact A2Y (by omega) | (show _<_; omega))))),?_,?_⟩
     ·rfl
     ·rw [htk,List.all_append,hp,List.all_cons,ho]; rfl
    ·rw [decide_eq_false h3] at ho;simp only [mask,A4e,List.zip_cons_cons,WQ,List.zip_nil_left,List.foldl_cons,List.foldl_nil,List.set_cons_succ,List.set_cons_zero,ofT,A2G,A03,Xy,Zx,ofT,A2G,toT,A0u,A0a,A0m,A0v,A3a,tG,A0B,A0n,A0N];refine zJ Qw8 (zc @hc (zc @h2 (zc @h3 (zc @A0e (zc @hz1 Qw8))))) Qw8 (zc hB1 Qw8) Qw8 ?_;refine ⟨_,Weak.refl _ _,rfl,rfl,hall ho⟩
   ·rw [decide_eq_false h2] at ho;simp only [mask,A4e,List.zip_cons_cons,WQ,List.zip_nil_left,List.foldl_cons,List.foldl_nil,List.set_cons_succ,List.set_cons_zero,ofT,A2G,A03,Xy,Zx,ofT,A2G,toT,A0u,A0a,A0m,A0v,A3a,tG,A0B,A0n,A0N];refine zJ Qw8 (zc @hc (zc @h2 (zc @A0e (zc @hz1 Qw8)))) Qw8 (zc hB1 Qw8) Qw8 ?_;refine ⟨⟨_,_⟩,Weak.head2 (m:=4) (by decide) ((fun t f=>[f,f,f,f,f,f,f,f,f,f,f,f,f,f,f,f,f,f,f,f,f,f,f,f,f,f,f,f,f,f,f,f]) true false) rfl rfl (by (repeat' (first | exact A0l _ | exact A0r _ | exact A0h _ | refine Qw7 ?_ ?_ | refine A0i ?_ ?_ | refine A0k ?_ ?_ | refine A0g ?_ ?_ | exact Qw6 | exact A2Y (by omega) | (show _<_; omega) | exact A0p (fun _=>Qw6) | (intro c hc; cases hc; done) | (intro c hc; simp only [Qw,Qv,or_false] at hc; subst hc; first | exact Qw6 | exact A2Y (by omega) | (show _<_; omega)) | (intro c hc; simp only [Qw,Qv,or_false] at hc; rcases hc with rfl | rfl<;>first | exact Qw6 | exact A2Y (by omega) | (show _<_; omega))))),?_,?_⟩
    ·rfl
    ·rw [htk,List.all_append,hp,List.all_cons,ho]; rfl
 ·obtain ⟨rfl,hp⟩:=hI;rw [hlenI,Zw] at hp;rw [hp];simp only [mask];refine zR Qw8 Qw8 Qw8 ?_;simp [A0z,A0y,Blk.cells,ty,Tryz.results64,A0t,A0u,toT,A0d,A0b,A0c,A0a,A0v]
 ·obtain ⟨rfl,rfl,hp⟩:=hX;rw [hp];simp only [A1x,A25,mask];simp [A0z,A0y,Blk.cells,ty,Tryz.results64,A0t,A0u,toT,A0d,A0b,A0c,A0a,A0v]
end Go.Proofs.YtdbdfkohpjefjaaGreat
