/- A part of the proof. -/
import Derived.Test.YtdbdfkohpjefjaaGreatPart48
set_option linter.all false
set_option maxHeartbeats 4000000
set_option maxRecDepth 100000
namespace Go.Proofs.YtdbdfkohpjefjaaGreat
open Go.Sp
def C1N (k:Int):Bool:=(decide (1000<k)||decide (k< -1000))&&inD k
def C1q (d:List Int):Bool:=(d.take 20).all (fun k=> !C1N k)&&decide (d.length≤20)
theorem A8M {g:G} (h:A2e g 5 8=true):g.es.length≤40∧(checkG g=0->(endsL g.es).length≤8∧g.n≤5):=by
 unfold A2e at h;simp only [Zq,YY,decide_eq_true_eq] at h;refine ⟨h.1,fun hc=> ?_⟩;rcases h.2 with q | q
 ·exact absurd hc q
 ·exact ⟨by have:=q.2; omega,q.1⟩
theorem C1r (d:List Int) (hdl:d.length≤2^63-1):ACall Tryz.prog 19 [A0n d] (A0v (C1q d)):=by
 unfold C1q;refine ACall.of_body Tryz.func19 rfl (by kernel_rfl) ?_;simp only [entry,Tryz.ntmps19,A0n];refine zU ?_;refine zR Qw8 Qw8 Qw8 ?_;refine AWp.loopS (α:=Nat) 36 (fun i=>[(0,.c (.slice (A0o d) .none)),(3,.c (.int .i64 (i:Int)))]) (fun i=>[]) (fun i=>i≤d.length∧i≤20∧(d.take i).all (fun k=> !C1N k)=true) (fun i=>20-i) (0) (hk:=Weak.headL 0 36 [0,3] zW) (h0:=?_) (round:=fun i hI=>?_)
 ·exact ⟨Xj _,by omega,rfl⟩
 ·obtain ⟨hi,h20,hp⟩:=hI;by_cases hlt:i<d.length
  ·have hltI:(i:Int)<(d.length:Int):=by omega
   by_cases h2:i<20
   ·have h2I:(i:Int)<20:=by omega
    have e0:=Qq hlt;have e1:=A0w e0;have hIn:=C4p d[i];have t1:d.take (i+1)=d.take i++[d[i]]:=XX hlt;have hm:d[i]∈d.take 20:=List.mem_take_iff_getElem.2 ⟨i,by omega,rfl⟩;have hb:C1N d[i]=((decide (1000<d[i])||decide (d[i]< -1000))&&inD d[i]):=rfl;generalize d[i]=x at*;have fin:C1N x=true->((d.take 20).all (fun k=> !C1N k)&&decide (d.length≤20))=false:=fun q=>by
     rw [List.all_eq_false.2 ⟨x,hm,by simp [q]⟩,Qq3]
    have nxt:C1N x=false->(d.take (i+1)).all (fun k=> !C1N k)=true:=fun q=>by
     rw [t1,List.all_append,hp,List.all_cons,q]; rfl
    cases hin:inD x with
    | true=>
     rw [hin] at hIn hb;by_cases c1:x>1000
     ·rw [decide_eq_true c1,Bool.true_or,Jy] at hb;rw [fin hb];refine zR (zc @hltI (zc @h2I (zc @e1 (zc @c1 (zc @A0e Qw8))))) (zc hIn Qw8) Qw8 ?_;simp [A0z,A0y,Blk.cells,ty,Tryz.results19,A0t,A0u,toT,A0d,A0b,A0c,A0a,A0v]
     ·by_cases c2:x< -1000
      ·rw [decide_eq_true c2,Bool.or_true,Jy] at hb;rw [fin hb];refine zR (zc @hltI (zc @h2I (zc @e1 (zc @c1 (zc @c2 (zc @A0e Qw8)))))) (zc hIn Qw8) Qw8 ?_;simp [A0z,A0y,Blk.cells,ty,Tryz.results19,A0t,A0u,toT,A0d,A0b,A0c,A0a,A0v]
      ·have hb2:C1N x=false:=by rw [hb,decide_eq_false (by omega),decide_eq_false c2]; rfl
       refine zR (zc @hltI (zc @h2I (zc @e1 (zc @c1 (zc @c2 (zc @A0e Qw8)))))) (zc hIn Qw8) Qw8 ?_;refine ⟨i+1,Weak.headN 0 36 [0,3] zW,?_,?_⟩
       ·exact ⟨hlt,h2,nxt hb2⟩
       ·omega
    | false=>
     rw [hin] at hIn hb;rw [Bool.and_false] at hb;by_cases c1:x>1000
     ·
      refine zR (zc @hltI (zc @h2I (zc @e1 (zc @c1 (zc @A0e Qw8))))) (zc hIn Qw8) Qw8 ?_;refine ⟨i+1,Weak.headN 0 36 [0,3] zW,?_,?_⟩
      ·exact ⟨hlt,h2,nxt hb⟩
      ·omega
     ·by_cases c2:x< -1000
      ·
       refine zR (zc @hltI (zc @h2I (zc @e1 (zc @c1 (zc @c2 (zc @A0e Qw8)))))) (zc hIn Qw8) Qw8 ?_;refine ⟨i+1,Weak.headN 0 36 [0,3] zW,?_,?_⟩
       ·exact ⟨hlt,h2,nxt hb⟩
       ·omega
      ·
       refine zR (zc @hltI (zc @h2I (zc @e1 (zc @c1 (zc @c2 (zc @A0e Qw8)))))) (zc hIn Qw8) Qw8 ?_;refine ⟨i+1,Weak.headN 0 36 [0,3] zW,?_,?_⟩
       ·exact ⟨hlt,h2,nxt hb⟩
       ·omega
   ·have hnl: ¬(i:Int)<20:=by omega
    have ei:i=20:=by omega
    rw [ei] at hp hltI hnl;rw [ei];have hl: ¬d.length≤20:=by omega
    have hlI: ¬(d.length:Int)≤20:=by omega
    rw [decide_eq_false hl,Bool.and_false];refine zR (zc @hltI (zc @hnl (zc @hlI (zc @A0e Qw8)))) Qw8 Qw8 ?_;simp [A0z,A0y,Blk.cells,ty,Tryz.results19,A0t,A0u,toT,A0d,A0b,A0c,A0a,A0v]
  ·have hnl: ¬(i:Int)<(d.length:Int):=by omega
   have hl:d.length≤20:=by omega
   have hlI:(d.length:Int)≤20:=by omega
   have e:d.take 20=d.take i:=by rw [Zz (by omega),Zz (by omega)]
   rw [e,hp,decide_eq_true hl,Jy];refine zR (zc @hnl (zc @hlI (zc @A0e Qw8))) Qw8 Qw8 ?_;simp [A0z,A0y,Blk.cells,ty,Tryz.results19,A0t,A0u,toT,A0d,A0b,A0c,A0a,A0v]
theorem B6o (g:G):A2e g 5 8=true->g.es.length≤40∧(checkG g=0->(endsL g.es).length≤8):=fun h=>⟨(A8M h).1,fun hc=>((A8M h).2 hc).1⟩
theorem B6p {g:G} (h:B9y g=true):A2e g 5 8=true∧(A0s g=0->(treesG g).length≤24):=by
 unfold B9y at h;rw [Zq,YY,decide_eq_true_eq,decide_eq_true_eq] at h;refine ⟨h.1,fun hj=> ?_⟩;rcases h.2 with q | q
 ·exact absurd hj q
 ·rw [<-C1i (A1w hj).1,B2n] at q; exact q
structure RightS (r:R):Prop where
 hs:RSm r
 rib:ribE r=0
 rok:ROk r
 ends:(endsL r.es).length≤8
 ver:r.n≤5
 few:(treesG r.g).length≤24
theorem B6q (n w:Nat) (hn:n≤60) (hw:w<2^40):ACall Tryz.prog 89 [A0m n,A0m w] (A0n (zI (setN n w))):=by
 refine ACall.of_body Tryz.func89 rfl (by kernel_rfl) ?_;simp only [entry,Tryz.ntmps89,A0m];refine zU ?_;refine zR Qw8 Qw8 Qw8 ?_;refine AWp.weak (Weak.opens ((fun t f=>[f,f,f,f,f,t,f,f,f,f,f,f,f,f,f,f,f,f,f,f,f,f]) true false) 1 (by first | omega | simp)) ?_;simp only [A2i,A66,List.length_cons,List.length_nil,Xw,Nat.reduceAdd,List.cons_append,List.nil_append];rw [show (w:Int)=(A58 w 0:Int) by unfold A58; simp];refine AWp.loopS (α:=Nat) 22 (fun v=>[(0,.c (.int .i64 (n:Int))),(1,.c (.int .i64 (A58 w v:Int))),(5,.c (.slice (A0o (zI (setN v w))) (.chain 0))),(6,.c (.int .i64 (v:Int)))]) (fun v=>[.chain (setN v w).length 1]) (fun v=>v≤n) (fun v=>n-v) (0) (hk:=Weak.headL 1 22 [0,1,5,6] zW) (h0:=?_) (round:=fun v hI=>?_)
 ·exact Xj _
 ·have hv:v≤n:=hI;clear hI;by_cases hvl:v<n
  ·have hvI:(v:Int)<(n:Int):=by omega
   have hss:=A4D v w;have hsl2:=A28 v w;have hwv:A58 w v≤w:=Nat.div_le_self _ _;have hdv:=A9R w v;have hb:B0V w v=A58 w v%2:=rfl;rw [hb] at hss;generalize A58 w v=wv at*;have m1:=C4m wv;have m2:=C4n wv;by_cases hp:wv%2=1
   ·rw [if_pos hp] at hss;have hpI:((wv%2:Nat):Int)=1:=by omega
    have hzs:=B0A (setN v w) v;rw [<-hss] at hzs;have hln:(setN (v+1) w).length=(setN v w).length+1:=by rw [hss]; simp
    generalize setN v w=d at*
    repeat' (first|((first|(refine zT ?_;intro K' hK')|(refine zG ?_ ?_<;>(try refine zH ?_)<;>intro hguard<;>(try exact zX)<;>try intro K' hK'))<;>((try simp+contextual only [go_sem,hvI,m1,m2,hpI,A0e,A1O,A2d,Int.toNat_natCast,chunks,List.range,List.range.loop]);(repeat' first|(with_reducible refine hK' _ _ ?_;clear hK' K')|(with_reducible exact A1s (by assumption))|exact zY|with_reducible refine Qw7 ?_ ?_|(with_reducible intro hpath;try exact zP)|(refine hK' _ _ ?_;clear hK' K')|fail);try refine zS ?_))|(refine zE ?_;refine hK _ _ ?_;clear hK K)|(refine zN ?_;try refine zS ?_)|refine zA ?_|(refine zB ?_;intro K hK)|(refine zC ?_ ?_<;>(try refine zH ?_)<;>intro hcond<;>try exact zX)|fail)
    rw [hzs];refine ⟨v+1,Weak.headF 1 22 [0,1,5,6] (zc @hln (zc @hdv Qw8)) zW,?_,?_⟩
    ·exact hvl
    ·omega
   ·rw [if_neg hp] at hss;have hpI: ¬((wv%2:Nat):Int)=1:=by omega
    repeat' (first|((first|(refine zT ?_;intro K' hK')|(refine zG ?_ ?_<;>(try refine zH ?_)<;>intro hguard<;>(try exact zX)<;>try intro K' hK'))<;>((try simp+contextual only [go_sem,hvI,m1,m2,hpI,A0e,A2d,Int.toNat_natCast]);(repeat' first|(with_reducible refine hK' _ _ ?_;clear hK' K')|exact zY|with_reducible refine Qw7 ?_ ?_|(with_reducible intro hpath;try exact zP)|(refine hK' _ _ ?_;clear hK' K')|fail);try refine zS ?_))|(refine zE ?_;refine hK _ _ ?_;clear hK K)|(refine zN ?_;try refine zS ?_)|refine zA ?_|(refine zB ?_;intro K hK)|(refine zC ?_ ?_<;>(try refine zH ?_)<;>intro hcond<;>try exact zX)|fail)
    rw [<-hss];refine ⟨v+1,Weak.headF 1 22 [0,1,5,6] (zc @hdv Qw8) zW,?_,?_⟩
    ·exact hvl
    ·omega
  ·have hnl: ¬(v:Int)<(n:Int):=by omega
   have ev:v=n:=by omega
   subst ev;refine zR (zc @hnl Qw8) Qw8 Qw8 ?_;simp [A0z,A0y,Blk.cells,ty,Tryz.results89,A0t,A0u,toT,A0d,A0b,A0c,A0a,A0n]
def A6S (n k:Nat):List (List Int):=(List.range k).map fun w=>zI (setN n w)
theorem A6w (n k:Nat):(A6S n k).length=k:=by simp [A6S]
theorem B6r (n k:Nat):A6S n (k+1)=A6S n k++[zI (setN n k)]:=by unfold A6S; rw [Ww,WY]; rfl
theorem B9z {n k w:Nat} (h:w<k):(A6S n k)[w]? =some (zI (setN n w)):=by unfold A6S; rw [QY,Yw h]; rfl
theorem B6s (g:G) (n:Nat) (hn:g.n=n) (h12:n≤12):ACall Tryz.prog 44 [tG g] (A0N (A6S n (B0G n))):=by
 obtain ⟨g0,es⟩:=g;simp only at hn;subst hn;have hp12:B0G n≤2^12:=Vy (by omega) h12;refine ACall.of_body Tryz.func44 rfl (by kernel_rfl) ?_;simp only [entry,Tryz.ntmps44,tG];refine zU ?_;refine zR Qw8 Qw8 Qw8 ?_;refine AWp.loopS (α:=Nat) 28 (fun v=>[(1,.c (.ptr 0 0)),(3,.c (.int .i64 (B0G v:Int))),(4,.c (.int .i64 (v:Int)))]) (fun v=>[.box [.int .i64 (n:Int),.slice (A0f es) .none]]) (fun v=>v≤n) (fun v=>n-v) (0) (hk:=Weak.headL 1 28 [1,3,4] zW) (h0:=?_) (round:=fun v hI=>?_)
 ·exact Xj _
 ·have hv:v≤n:=hI;clear hI;by_cases hvl:v<n
  ·have hvI:(v:Int)<(n:Int):=by omega
   have hp:B0G v≤2^12:=Vy (by omega) (by omega);have hs:B0G (v+1)=B0G v*2:=Nat.pow_succ 2 v;have hsI:2*((B0G v:Nat):Int)=((B0G (v+1):Nat):Int):=by rw [hs]; omega
   have hr:(-9223372036854775808:Int)≤((B0G (v+1):Nat):Int)∧((B0G (v+1):Nat):Int)≤9223372036854775807:=by omega
   repeat' (first|((first|(refine zT ?_;intro K' hK')|(refine zG ?_ ?_<;>(try refine zH ?_)<;>intro hguard<;>(try exact zX)<;>try intro K' hK'))<;>((try simp+contextual only [go_sem,hvI,hsI]);(repeat' first|(with_reducible refine hK' _ _ ?_;clear hK' K')|exact zY|with_reducible refine Qw7 ?_ ?_|(with_reducible intro hpath;try exact zP)|(refine hK' _ _ ?_;clear hK' K')|fail);try refine zS ?_))|(refine zE ?_;refine hK _ _ ?_;clear hK K)|(refine zN ?_;try refine zS ?_)|refine zA ?_|(refine zB ?_;intro K hK)|(refine zC ?_ ?_<;>(try refine zH ?_)<;>intro hcond<;>try exact zX)|fail)
   refine ⟨v+1,Weak.headN 1 28 [1,3,4] zW,?_,?_⟩
   ·exact hvl
   ·omega
  ·have hnl: ¬(v:Int)<(n:Int):=by omega
   have ev:v=n:=by omega
   rw [ev];rw [ev] at hnl;generalize hP:B0G n=P at*;refine zJ (stop 7) (zc @hnl Qw8) Qw8 Qw8 Qw8 ?_;refine AWp.weak (Weak.opens ((fun t f=>[f,f,f,f,f,t,f,f,f,f,f,f,f,f,f,f,f,f,f,f,f,f,f,f,f,f,f,f]) true false) 1 (by first | omega | simp)) ?_;simp only [A2i,A66,List.length_cons,List.length_nil,Xw,Nat.reduceAdd,List.cons_append,List.nil_append];refine zR Qw8 Qw8 Qw8 ?_;refine AWp.loopS (α:=Nat) 28 (fun k=>[(1,.c (.ptr 0 0)),(3,.c (.int .i64 (P:Int))),(5,.c (.slice (A0x (A6S n k)) (.chain 1))),(6,.c (.int .i64 (k:Int)))]) (fun k=>[.box [.int .i64 (n:Int),.slice (A0f es) .none],.chain k 1]) (fun k=>k≤P) (fun k=>P-k) (0) (hk:=Weak.headL 2 28 [1,3,5,6] zW) (h0:=?_) (round:=fun k hI=>?_)
   ·exact Xj _
   ·have hk:k≤P:=hI;clear hI;by_cases hkl:k<P
    ·have hkI:(k:Int)<(P:Int):=by omega
     have hM:=B6q n k (by omega) (by omega);have hss:=B6r n k;have hlk:=A6w n k;generalize zI (setN n k)=x at*;generalize hK1:A6S n (k+1)=K1 at*;generalize A6S n k=K0 at*;refine zRc (zc @hkI (zc @A0q (zc @A3Q (zc @hlk Qw8)))) (zc hM Qw8) @A2u ?_;rw [<-hss];refine ⟨k+1,Weak.headF 2 28 [1,3,5,6] (zc @hK1 Qw8) zW,?_,?_⟩
     ·exact hkl
     ·omega
    ·have hnl2: ¬(k:Int)<(P:Int):=by omega
     have ek:k=P:=by omega
     rw [ek];rw [ek] at hnl2;refine zR (zc @hnl2 Qw8) Qw8 Qw8 ?_;simp [A0z,A0y,Blk.cells,ty,Tryz.results44,A0t,A0u,toT,A0d,A0b,A0c,A0a,A0N]
noncomputable def enB (g:G) (d:List Int) (w:Nat):Bool:=decide (B2v g w≤A5j d (setN g.n.toNat w))|| !B47 g w
noncomputable def enL (g:G) (d:List Int) (k:Nat):Bool:=(List.range k).all fun w=>decide (w=0)||enB g d w
theorem C1s (g:G) (d:List Int) (k:Nat):enL g d (k+1)=(enL g d k&&(decide (k=0)||enB g d k)):=by
 unfold enL; rw [Ww,List.all_append]; simp
theorem C48 {g:G} (h:A0s g=0) {d:List Int} (ht:A7t d g.n.toNat=((endsL g.es).length:Int)-g.n.toNat+1):enL g d (B0G g.n.toNat)=B6a g d:=by
 obtain ⟨hc,hcon⟩:=A1w h;have h12:=(A0j.1 hc).1;obtain ⟨n,hn⟩: ∃n:Nat,g.n=n:=⟨g.n.toNat,by omega⟩;have hnn:g.n.toNat=n:=by omega
 have hg:=(B35 (A2z hc hn)).2;rw [hnn] at ht ⊢;rw [Qz1];unfold enL B6a;rw [hnn,Zv,Zv];constructor
 ·intro he w hw;obtain ⟨⟨w1,w2⟩,w3⟩:=B2m.1 hw;have hp:w<B0G n:=by unfold B0G; have:=Nat.two_pow_pos n; omega
  have h1:=he w (XQ.2 hp);rw [decide_eq_false (by omega),JV] at h1;unfold enB at h1;rw [w3,hnn,JJ,Qj1,decide_eq_true_eq] at h1;rw [B9b hn];refine ⟨h1,fun hl=> ?_⟩;have ha:=C3d.1 hl;have h2:=C4s hc hn w1 hp w3;rw [B8Z hg (A':=fun _=>true) fun v hv=>ha v hv,B6c (A':=fun _=>true) fun v hv=>ha v hv,C3e,C1a] at h2;rw [<-B8Y d w n,B9a (A':=fun _=>true) (fun v=>d.getD v 0) fun v hv=>ha v hv,C3f,h2];exact ht
 ·intro he w hw;have hp:=XQ.1 hw;by_cases h0:w=0
  ·rw [decide_eq_true h0,Bool.true_or]
  ·rw [decide_eq_false h0,JV];unfold enB;cases hcw:B47 g w with
   | false=>simp
   | true=>
    have h1:=(B9b hn d).1 (he w (B2m.2 ⟨⟨by omega,by unfold B0G at hp; omega⟩,hcw⟩));rw [hnn,decide_eq_true h1.1]; rfl
def hdB (F:Nat->Bool):Nat->Bool
 | 0=>true
 | k+1=>F k
theorem B90 (g:G) (d:List Int) (hl:g.es.length≤40) (h0:A0s g=0) (hck:B0X d g.n=0) (h5:g.n≤12) (hE:(endsL g.es).length≤8)
  (hgen:A7t d g.n.toNat=((endsL g.es).length:Int)-g.n.toNat+1)
  (f1:ACall Tryz.prog 18 [tG g] (A0v true)) (f2:ACall Tryz.prog 19 [A0n d] (A0v true))
  (f3:ACall Tryz.prog 43 [tG g] (A0m 0)) (f4:ACall Tryz.prog 33 [A0n d,A0m g.n] (A0m 0))
  (f5:ACall Tryz.prog 32 [A0n d] (A0m (A7t d g.n.toNat))) (f6:ACall Tryz.prog 42 [tG g] (A0m (A7t d g.n.toNat)))
  (c1:ACall Tryz.prog 34 [tG g,A0n d] (.tup [A0v (B6a g d),A0m 0]))
  (hA:ACall Tryz.prog 11 [] (A0v true)):
  ACall Tryz.prog 9 [tG g,A0n d] (A0v true):=by
 obtain ⟨hc,hcon⟩:=A1w h0;have h12:=(A0j.1 hc).1;obtain ⟨n,hn⟩: ∃n:Nat,g.n=n:=⟨g.n.toNat,by omega⟩;have hnn:g.n.toNat=n:=by omega
 have hS:=B6s g n hn (by omega);have hP:B0G n≤2^12:=Vy (by omega) (by omega);have hIo:=B8X hc hl;have hi:=hIo.ind;have hchk:=hIo.chk;have hil:=hIo.len;have hind:=fun w=>A9E g (zI (setN g.n.toNat w)) (by omega) (by rw [A2d]; have:=A28 g.n.toNat w; have:=Qz3 hnn; omega);have hdW: ∀w,B5z g (zI (setN g.n.toNat w))=indW g w:=fun _=>rfl;simp only [hdW] at hind;have hcw: ∀w,B47 g w=connB (indW g w):=fun _=>rfl;have hgw: ∀w,B2v g w=B7z (endsL (indW g w).es):=fun _=>rfl;have hsu:=C1s g d;have he0:enL g d 0=true:=rfl;have heb: ∀w,enB g d w=(decide (B2v g w≤A5j d (setN n w))|| !B47 g w):=fun w=>by unfold enB; rw [hnn]
 rw [hn] at hck;obtain ⟨q1,q2,q3,q4⟩:=B0J hck;rw [<-C48 h0 hgen,hnn] at c1;have hsn: ∀w,1≤w->w<B0G n->(setN n w).length≠0:=fun w w1 w2 e=>by
  obtain ⟨v,hv,hb⟩:=B8V w1 w2;have:v∈setN n w:=YW.2 ⟨XQ.2 hv,decide_eq_true hb⟩;rw [ZW.1 e] at this; cases this
 have hsz:setN n 0=[]:=by
  unfold setN;rw [List.filter_eq_nil_iff];intro v _;unfold B0V; simp
 have hsl: ∀w v,v∈setN n w->v<n:=fun w v hv=>XQ.1 (YW.1 hv).1;have hsln: ∀w,(setN n w).length≤n:=fun w=>A28 n w;rw [hnn] at hi hchk hil hind hgen f5 f6;rw [hn] at f4;have hpw:2^n=B0G n:=rfl;rw [hpw] at hi hchk hil;clear hIo hdW hE hgen h0 hc hcon h12 hck;generalize indW g=iW at*;generalize B47 g=cW at*;obtain ⟨F,hF⟩: ∃F,enL g d=hdB F:=⟨fun k=>enL g d (k+1),funext fun k=>by cases k<;>rfl⟩;rw [hF] at hsu he0 c1;clear hF;generalize enB g d=eB at*;generalize B2v g=gW at*;generalize hPn:B0G n=P at*;generalize indE g=iE at*;clear hpw hPn;obtain ⟨g0,es⟩:=g;simp only at hn;subst hn;clear hnn;refine ACall.of_body Tryz.func9 rfl (by kernel_rfl) ?_;simp only [entry,Tryz.ntmps9,tG,A0n];refine zU ?_;refine zR (zc @A0q (zc @A6w Qw8)) (zc f1 (zc f2 (zc f3 (zc f4 (zc f5 (zc f6 (zc c1 (zc hS Qw8)))))))) Qw8 ?_;refine AWp.loopS (α:=Nat) 116 (fun k=>[(1,.c (.slice (A0o d) .none)),(2,.c (.ptr 0 0)),(5,.c (.bool (hdB F P))),(7,.c (.bool (hdB F k))),(54,.c (.slice (A0x (A6S n P)) .none)),(55,.c (.int .i64 (P:Int))),(56,.c (.int .i64 (k:Int)))]) (fun k=>[.box [.int .i64 (n:Int),.slice (A0f es) .none]]) (fun k=>k≤P) (fun k=>P-k) (0) (hk:=Weak.headL 1 116 [1,2,5,7,54,55,56] zW) (h0:=?_) (round:=fun k hI=>?_)
 ·exact Xj _
 ·have hk:k≤P:=hI;clear hI;by_cases hkl:k<P
  ·have hkI:(k:Int)<(P:Int):=by omega
   have hg:=A0X (B9z (n:=n) hkl);have hsk:=hsu k;by_cases hk0:k=0
   ·have hz0:zI ([]:List Nat)=[]:=rfl;have hs2:hdB F k=hdB F (k+1):=by
     rw [hsk,hk0,he0]; simp
    rw [hk0,hsz,hz0] at hg;rw [<-hk0] at hg
    repeat' (first|((first|(refine zT ?_;intro K' hK')|(refine zG ?_ ?_<;>(try refine zH ?_)<;>intro hguard<;>(try exact zX)<;>try intro K' hK'))<;>((try simp+contextual only [go_sem,hkI,hg,A0q,A6w,A0e,List.length_nil,Int.toNat_natCast,Yz]);(repeat' first|(with_reducible refine hK' _ _ ?_;clear hK' K')|exact zY|with_reducible refine Qw7 ?_ ?_|(with_reducible intro hpath;try exact zP)|(refine hK' _ _ ?_;clear hK' K')|fail);try refine zS ?_))|(refine zE ?_;refine hK _ _ ?_;clear hK K)|(refine zN ?_;try refine zS ?_)|refine zA ?_|(refine zB ?_;intro K hK)|(refine zC ?_ ?_<;>(try refine zH ?_)<;>intro hcond<;>try exact zX)|fail)
    rw [hs2];refine ⟨k+1,Weak.headN 1 116 [1,2,5,7,54,55,56] zW,?_,?_⟩
    ·exact hkl
    ·omega
   ·have k1:1≤k:=by omega
    rw [decide_eq_false hk0,JV] at hsk;have hne:=hsn k k1 hkl;have hin:=hind k;rw [hi k k1 hkl] at hin;have hch:=hchk k k1 hkl;have hie:=hil k k1 hkl;have hG:=B4e (iW k) (by omega);rw [hch,if_neg (by simp),<-hgw] at hG;have hCk:=A46 (iW k) (by omega);rw [hch] at hCk;have hCn:=A6P (iW k) hie hch;rw [<-hcw] at hCn;have hzl:=A2d (setN n k);have hneI: ¬((setN n k).length:Int)=0:=by omega
    have hsk1:=hsl k;have hsk2:=hsln k;rw [heb k] at hsk;have hsb: ∀i:Nat,-(1048576*(i:Int))≤A5j d ((setN n k).take i)∧A5j d ((setN n k).take i)≤1048576*(i:Int):=fun i=>by
     induction i with
     | zero=>simp [A5j]
     | succ i ih=>
      by_cases hx:i<(setN n k).length
      ·rw [A8G d (Qq hx)];have:=q4 (setN n k)[i];omega
      ·have e1:(setN n k).take (i+1)=(setN n k).take i:=by rw [Zz (by omega),Zz (by omega)]
       rw [e1]; omega
    clear hind hchk hil hsn hsl hsln hsu hgw hcw heb hi;generalize gW k=ge at*;generalize cW k=cw at*;generalize setN n k=s at*;generalize hH2:iW k=H2 at*;generalize hek:hdB F (k+1)=ek at*;obtain ⟨hn',hes'⟩:=H2;refine zR (zc @hkI (zc @hg (zc @hneI (zc @A0q (zc @A6w (zc @A0e (zc @hzl Qw8))))))) (zc hin (zc hG Qw8)) Qw8 ?_;refine AWp.loopS (α:=Nat) 116 (fun i=>[(1,.c (.slice (A0o d) .none)),(2,.c (.ptr 0 0)),(5,.c (.bool (hdB F P))),(7,.c (.bool (hdB F k))),(10,.c (.ptr 1 0)),(12,.c (.int .i64 ge)),(14,.c (.int .i64 (A5j d (s.take i)))),(54,.c (.slice (A0x (A6S n P)) .none)),(55,.c (.int .i64 (P:Int))),(56,.c (.int .i64 (k:Int))),(80,.c (.slice (A0o (zI s)) .none)),(81,.c (.int .i64 (s.length:Int))),(82,.c (.int .i64 (i:Int)))]) (fun i=>[.box [.int .i64 (n:Int),.slice (A0f es) .none],.box [.int .i64 hn',.slice (A0f hes') .none]]) (fun i=>i≤s.length) (fun i=>s.length-i) (0) (hk:=Weak.headL 2 116 [1,2,5,7,10,12,14,54,55,56,80,81,82] zW) (h0:=?_) (round:=fun i hI=>?_)
    ·exact Xj _
    ·have hi:i≤s.length:=hI;clear hI;by_cases hil:i<s.length
     ·have hiI:(i:Int)<(s.length:Int):=by omega
      have hgi:=Qq hil;have hgz:(A0o (zI s))[i]? =some [.int .i64 ((s[i]:Nat):Int)]:=A0w (by unfold zI; rw [QY,hgi]; rfl);have hvn:=hsk1 _ (Xv hil);have hsi:=A8G d hgi;have hgd:=A0w (A1j (d:=d) (i:=s[i]) (by omega));have hb1:=hsb i;have hb2:=hsb (i+1);have hvI:((s[i]:Nat):Int)<(n:Int):=by omega
      generalize s[i]=v at*;generalize d.getD v 0=x at*;generalize hS1:A5j d (s.take (i+1))=S1 at*;generalize A5j d (s.take i)=S0 at*;have hr:(-9223372036854775808:Int)≤S0+x∧S0+x≤9223372036854775807:=by omega
      refine zR (zc @hiI (zc @hgz (zc @hgd (zc @hvI (zc @q3 (zc @A0e (zc @hzl Qw8))))))) Qw8 Qw8 ?_;rw [<-hsi];refine ⟨i+1,Weak.headF 2 116 [1,2,5,7,10,12,14,54,55,56,80,81,82] (zc @hS1 Qw8) zW,?_,?_⟩
      ·exact hil
      ·omega
     ·have hnl: ¬(i:Int)<(s.length:Int):=by omega
      have ei:i=s.length:=by omega
      rw [ei];rw [ei] at hnl;rw [Zw];generalize A5j d s=sm at*;cases hb7:hdB F k with
      | false=>
       rw [hb7,Qq3] at hsk;refine zR (zc @hnl Qw8) Qw8 Qw8 ?_;refine ⟨k+1,Weak.headF 1 116 [1,2,5,7,54,55,56] (zc @hek (zc @hsk Qw8)) zW,?_,?_⟩
       ·exact hkl
       ·omega
      | true=>
       rw [hb7,Jy] at hsk;by_cases hge:ge≤sm
       ·rw [decide_eq_true hge,Bool.true_or] at hsk;have hgeI:ge≤sm:=hge;refine zR (zc @hnl (zc @hgeI Qw8)) Qw8 Qw8 ?_;refine ⟨k+1,Weak.headF 1 116 [1,2,5,7,54,55,56] (zc @hek (zc @hsk Qw8)) zW,?_,?_⟩
        ·exact hkl
        ·omega
       ·rw [decide_eq_false hge,JV] at hsk;cases cw with
        | false=>
         rw [Qq2] at hsk;refine zR (zc @hnl (zc @hge Qw8)) (zc hCk (zc hCn Qw8)) Qw8 ?_;refine ⟨k+1,Weak.headF 1 116 [1,2,5,7,54,55,56] (zc @hek (zc @hsk Qw8)) zW,?_,?_⟩
         ·exact hkl
         ·omega
        | true=>
         rw [JJ] at hsk;refine zR (zc @hnl (zc @hge Qw8)) (zc hCk (zc hCn Qw8)) Qw8 ?_;refine ⟨k+1,Weak.headF 1 116 [1,2,5,7,54,55,56] (zc @hek (zc @hsk Qw8)) zW,?_,?_⟩
         ·exact hkl
         ·omega
  ·have hnl: ¬(k:Int)<(P:Int):=by omega
   have ek:k=P:=by omega
   rw [ek];rw [ek] at hnl;cases hb:hdB F P with
   | false=>
    refine zR (zc @hnl Qw8) (zc hA Qw8) Qw8 ?_;simp [A0z,A0y,Blk.cells,ty,Tryz.results9,A0t,A0u,toT,A0d,A0b,A0c,A0a,A0v]
   | true=>
    refine zR (zc @hnl Qw8) (zc hA Qw8) Qw8 ?_;simp [A0z,A0y,Blk.cells,ty,Tryz.results9,A0t,A0u,toT,A0d,A0b,A0c,A0a,A0v]
theorem B91 (g:G) (d:List Int) (hdl:d.length≤2^63-1):ACall Tryz.prog 9 [tG g,A0n d] (A0v true):=by
 have hA:=B6n;have f1:=C1p g (B6o g);have f2:=C1r d hdl;by_cases hr:B9y g=true
 case neg=>
  simp only [Qq5] at hr;rw [hr] at f1;obtain ⟨n,es⟩:=g;refine ACall.of_body Tryz.func9 rfl (by kernel_rfl) ?_;simp only [entry,Tryz.ntmps9,tG,A0n];refine zU ?_;refine zR Qw8 (zc f1 (zc hA Qw8)) Qw8 ?_;simp [A0z,A0y,Blk.cells,ty,Tryz.results9,A0t,A0u,toT,A0d,A0b,A0c,A0a,A0v]
 rw [hr] at f1;by_cases hl:C1q d=true
 case neg=>
  simp only [Qq5] at hl;rw [hl] at f2;obtain ⟨n,es⟩:=g;refine ACall.of_body Tryz.func9 rfl (by kernel_rfl) ?_;simp only [entry,Tryz.ntmps9,tG,A0n];refine zU ?_;refine zR Qw8 (zc f1 (zc f2 (zc hA Qw8))) Qw8 ?_;simp [A0z,A0y,Blk.cells,ty,Tryz.results9,A0t,A0u,toT,A0d,A0b,A0c,A0a,A0v]
 rw [hl] at f2;replace hdl:d.length<2^40:=by
  unfold C1q at hl;rw [Zq,decide_eq_true_eq] at hl;omega
 obtain ⟨d1,d2⟩:=B6p hr;obtain ⟨e1,e2⟩:=A8M d1;have f3:=A7i g e1;by_cases h0:A0s g=0
 case neg=>
  generalize A0s g=j at*;clear hr hl d1 d2 e1 e2;obtain ⟨n,es⟩:=g;refine ACall.of_body Tryz.func9 rfl (by kernel_rfl) ?_;simp only [entry,Tryz.ntmps9,tG,A0n];refine zU ?_;refine zR (zc @h0 Qw8) (zc f1 (zc f2 (zc f3 (zc hA Qw8)))) Qw8 ?_;simp [A0z,A0y,Blk.cells,ty,Tryz.results9,A0t,A0u,toT,A0d,A0b,A0c,A0a,A0v]
 rw [h0] at f3;obtain ⟨hc,hcon⟩:=A1w h0;have h12:=(A0j.1 hc).1;have f4:=B8M d g.n hdl;by_cases hck:B0X d g.n=0
 case neg=>
  generalize B0X d g.n=j at*;clear hr hl d1 d2 e1 e2 hc hcon h12 h0;obtain ⟨n,es⟩:=g;refine ACall.of_body Tryz.func9 rfl (by kernel_rfl) ?_;simp only [entry,Tryz.ntmps9,tG,A0n];refine zU ?_;refine zR (zc @hck Qw8) (zc f1 (zc f2 (zc f3 (zc f4 (zc hA Qw8))))) Qw8 ?_;simp [A0z,A0y,Blk.cells,ty,Tryz.results9,A0t,A0u,toT,A0d,A0b,A0c,A0a,A0v]
 rw [hck] at f4;obtain ⟨n,hn⟩: ∃n:Nat,g.n=n:=⟨g.n.toNat,by omega⟩;have hnn:g.n.toNat=n:=by omega
 have hck2:=hck;rw [hn] at hck2;obtain ⟨q1,q2,q3,q4⟩:=B0J hck2;have f5:=C1m d (n:=g.n.toNat) (by omega) (by omega) (B8v q4 (by decide));have f6:=B7A g g.n.toNat hc (by omega) (by omega);have hpn:A1J g.es g.n.toNat g.n.toNat=1:=by have:=hcon; unfold connB at this; exact of_decide_eq_true this
 rw [hpn] at f6;by_cases hgen:A7t d g.n.toNat=((endsL g.es).length:Int)-(g.n.toNat:Int)+(1:Nat)
 case neg=>
  generalize A7t d g.n.toNat=a at*;generalize ((endsL g.es).length:Int)-(g.n.toNat:Int)+(1:Nat)=b at*;clear hr hl d1 d2 e1 e2 hc hcon h12 h0 hck hpn hnn hn;obtain ⟨n',es⟩:=g;refine ACall.of_body Tryz.func9 rfl (by kernel_rfl) ?_;simp only [entry,Tryz.ntmps9,tG,A0n];refine zU ?_;refine zR (zc @hgen Qw8) (zc f1 (zc f2 (zc f3 (zc f4 (zc f5 (zc f6 (zc hA Qw8))))))) Qw8 ?_;simp [A0z,A0y,Blk.cells,ty,Tryz.results9,A0t,A0u,toT,A0d,A0b,A0c,A0a,A0v]
 rw [<-hgen] at f6;have c1:=C1b g d e1 hdl;have hbe:C30 g d=0:=by unfold C30; rw [if_neg (by omega)]; exact hck
 have hb:(decide (C30 g d=0)&&B6a g d)=B6a g d:=by rw [decide_eq_true hbe,Jy]
 rw [hb,hbe] at c1;exact B90 g d e1 h0 hck (by omega) (e2 hc).1 (by rw [hgen]; rfl) f1 f2 f3 f4 f5 f6 c1 hA
end Go.Proofs.YtdbdfkohpjefjaaGreat
