/- A part of the proof. -/
import Derived.Test.YtdbdfkohpjefjaaGreatPart17
import Derived.Test.YtdbdfkohpjefjaaGreatPart19
import Derived.Test.YtdbdfkohpjefjaaGreatPart10
import Derived.Test.YtdbdfkohpjefjaaGreatPart11
set_option linter.all false
set_option maxHeartbeats 4000000
set_option maxRecDepth 100000
namespace Go.Proofs.YtdbdfkohpjefjaaGreat
open Go.Sp
def A1Q (es:List E):List (Int×Int):=es.map fun e=>(e.a,e.b)
theorem B3l {g:G} (hc:checkG g=0) {p:Int×Int} (h:p∈A1Q g.es):(0≤p.1∧p.1<g.n)∧(0≤p.2∧p.2<g.n):=by
 obtain ⟨e,he,rfl⟩:=Xq.1 h;have:=(A0j.1 hc).2.1 e he;unfold okE at this;simp only; omega
theorem A6L {g:G} (hc:checkG g=0):B7C (A1Q g.es):=fun p hp=>by
 have:=B3l hc hp;have:=(A0j.1 hc).1;omega
def A2v:List Nat:=List.replicate 12 0
theorem B5E:A2v.length=12:=by simp [A2v]
theorem B5F (g:G) (hc:checkG g=0) (hl:g.es.length<2^30):ACall Tryz.prog 191 [tG g] (tF (genS (A1Q g.es)).1):=by
 have h12:=A6L hc;obtain ⟨n,es⟩:=g;simp only at h12 hl ⊢;have hg:=B7K;have hr12:(List.range 12).length=12:=Vj;have h0:(genS ((A1Q es).take 0)).1=List.range 12:=rfl;refine ACall.of_body Tryz.func191 rfl (by kernel_rfl) ?_;simp only [entry,Tryz.ntmps191,tG];refine zU ?_;generalize hR:List.range 12=R at*;have hof:(fT R).map A03=fC R:=B58 R;have hst:=A3p A2v R (by rw [hr12]; rfl);have hlz:A2v.length=12:=B5E;have hz:fC A2v=[.int .i64 0,.int .i64 0,.int .i64 0,.int .i64 0,.int .i64 0,.int .i64 0,.int .i64 0,.int .i64 0,.int .i64 0,.int .i64 0,.int .i64 0,.int .i64 0]:=rfl;rw [hz] at hst;unfold tF at hg;refine zR (zc @A01 (zc @A0U (zc @A3T (zc @hof (zc @hst (zc @hr12 Qw8)))))) (zc hg Qw8) Qw8 ?_;rw [<-h0];refine AWp.loopS (α:=Nat) 21 (fun i=>[(2,.c (.ptr 1 0)),(3,.c (.ptr 2 0)),(8,.c (.slice (A0f es) .none)),(9,.c (.int .i64 (es.length:Int))),(10,.c (.int .i64 (i:Int)))]) (fun i=>[.box [.int .i64 n,.slice (A0f es) .none],.box (fC A2v),.box (fC (genS ((A1Q es).take i)).1)]) (fun i=>i≤es.length) (fun i=>es.length-i) (0) (hk:=Weak.headL 3 21 [2,3,8,9,10] (zV @A0Y)) (h0:=?_) (round:=fun i hI=>?_)
 ·exact Xj _
 ·have hi:i≤es.length:=hI;clear hI;have hok:=B70 (l:=(A1Q es).take i) fun q hq=>h12 q (Vv hq);by_cases hlt:i<es.length
  ·have hltI:(i:Int)<es.length:=by omega
   have e0:=Qq hlt;have e1:=A1Y e0;have hp:(A1Q es)[i]? =some (es[i].a,es[i].b):=by simp [A1Q,e0]
   have hsn:=take_snoc hp;have hnx:=A8t ((A1Q es).take i) (es[i].a,es[i].b);rw [<-hsn] at hnx;have hrng:=h12 _ (Qy hp);generalize es[i]=x at*;obtain ⟨xa,xb,xm⟩:=x;simp only at hrng hnx e1;obtain ⟨a,rfl⟩:=XV hrng.1.1;obtain ⟨b,rfl⟩:=XV hrng.2.1;have ha:a<12:=by omega
   have hb:b<12:=by omega
   have hF:=hok.1;simp only [A1C,Int.toNat_natCast] at hnx;have hn1:=congrArg Prod.fst hnx;simp only at hn1;generalize (genS ((A1Q es).take i)).1=F at*;have hJ:=C00 F hF a b ha hb (H:=[.box [.int .i64 n,.slice (A0f es) .none],.box (fC A2v),.box (fC F),.box [.int .i64 (a:Int),.int .i64 (b:Int),.int .i64 xm]]) (id:=2) rfl;rw [<-hn1] at hJ;simp only [List.set_cons_succ,List.set_cons_zero] at hJ;refine zJ Qw8 (zc @hltI (zc @e1 (zc @A01 Qw8))) Qw8 (zc hJ Qw8) Qw8 ?_;refine ⟨i+1,Weak.headN 3 21 [2,3,8,9,10] (zV @A0Y),?_,?_⟩
   ·exact hlt
   ·omega
  ·have ei:i=es.length:=by omega
   subst ei;have hnl: ¬((es.length:Int)<es.length):=by omega
   have htk:(A1Q es).take es.length=A1Q es:=Zz (by simp [A1Q]);rw [htk];rw [htk] at hok;have hlF:=hok.1.len;generalize (genS (A1Q es)).1=F at*;have ht:(fC F).take 12=fC F:=Zz (by rw [A0U,hlF]; exact QQ _);have hs:=A3p A2v F (by rw [hlF]; rfl);generalize A2v=Z at*;refine zR (zc @hnl (zc @A0U (zc @hlF (zc @hlz (zc @ht (zc @hs (zc @A3T Qw8))))))) Qw8 Qw8 ?_;have hm:=A6h [Blk.box [.int .i64 n,.slice (A0f es) .none],Blk.box (fC F),Blk.box (fC F)] F;simp [A0z,A0y,Blk.cells,ty,Tryz.results191,A0t,A0u,toT,A0d,A0b,A0c,A0a,hm,hlF,ht,A0U,tF]
theorem B4o:B0T Tryz.prog 134=some (3,3):=by simp only [ty]
theorem C03:A07 Tryz.prog 3=some (.int .i64 0):=by simp only [ty]
theorem A0I (F:List Nat) (v:Nat):(A1h F v).length=(A0H F v).length:=by simp [A1h]
theorem A20 {m b:Nat} {ls:List (List Int)} {n:Nat} (h:b+ls.length≤m):blkIn m (.box (chI b ls++List.replicate n .any)):=C2c (by simpa using h)
theorem C22 (b i:Nat) (ls:List (List Int)) (l:List Int) (R:List ACell) (h:i<ls.length):(chI b ls++R).set i (.slice (A0o l) (.chain (i+b)))=chI b (ls.set i l)++R:=by
 rw [Qq7 _ _ (by rw [A2k]; exact h),B7q]
theorem C3W {b i:Nat} {ls:List (List Int)} {l:List Int} (R:List ACell) (h:ls[i]? =some l):(chI b ls++R).drop i= .slice (A0o l) (.chain (i+b))::(chI b ls++R).drop (i+1):=by
 have hl:=(Qx.1 h).1;rw [List.drop_append_of_le_length (by rw [A2k]; omega),List.drop_append_of_le_length (by rw [A2k]; omega),B4c h]; rfl
theorem C23 (b:Nat) (ls:List (List Int)) (l:List Int) (R:List ACell):(chI b ls++[ACell.nils]++R).set ls.length (.slice (A0o l) (.chain (ls.length+b)))=chI b (ls++[l])++R:=by
 rw [Zj,JQ _ _ (by rw [A2k]; exact QQ _),A2k,Jz];unfold chI;rw [WY,Xy,Zx,B3R];simp
theorem B1P (b:Nat) (ls:List (List Int)) (R:List ACell):(chI b ls++[ACell.nils]++R).drop ls.length= .nils::R:=by
 rw [Zj,List.drop_append,A2k,Jz,Vx (by rw [A2k]; exact QQ _)]; rfl
theorem B5G (b:Nat) (ls:List (List Int)) (R:List ACell):(chI b ls++[ACell.nils]++R)[ls.length]? =some .nils:=by
 have:=congrArg (·[0]?) (B1P b ls R);simpa using this
theorem C04 {b i:Nat} {ls:List (List Int)} {l:List Int} (R:List ACell) (h:ls[i]? =some l):(chI b ls++R)[i]? =some (.slice (A0o l) (.chain (i+b))):=by
 have hl:=(Qx.1 h).1;rw [Qk (by rw [A2k]; exact hl)];exact B7p h
theorem C05 (ls:List (List Int)) (l:List Int):chJ (ls++[l])=chJ ls++[.chain l.length 1]:=by
 unfold chJ; rw [WY,Xy,Zx,B9S,A0e]
theorem C3X {j b:Nat} {ls:List (List Int)}: ∀c,c∈chI b ls->noJ j c=true:=C1z
@[simp] theorem C3Y (F:List Nat) (v:Nat):(chJ (A1h F v)).take (A0H F v).length=chJ (A1h F v):=A5Z (by rw [A0I]; exact QQ _)
theorem B7X {cs0:List ACell} {F:List Nat} (h0: ∀c,c∈cs0->noJ 3 c=true) {es:List (MKey×MV)} {b:Blk} {ps:List (List Int)}: ∀(i:Nat) blk,(Blk.box cs0:: .box (fC F):: .map es::b::chJ ps)[i]? =some blk->i≠3->noB 3 blk
 | 0,blk,h,_=>by simp at h; subst h; exact h0
 | 1,blk,h,_=>by
  simp at h; subst h;intro c hc;obtain ⟨n,_,rfl⟩:=Xq.1 hc;rfl
 | 2,blk,h,_=>by simp at h; subst h; trivial
 | 3,blk,h,hn=>absurd rfl hn
 | i+4,blk,h,_=>by
  have hm:=Qy (l:=chJ ps) (i:=i) (a:=blk) (by simpa using h);obtain ⟨r,_,rfl⟩:=Xq.1 hm;trivial
theorem B7Y (F:List Nat) (hF:FOk F) (n:Nat) (h1:1≤n) (hn:n≤12) (cs0:List ACell) (hcs: ∀m,2≤m->blkIn m (.box cs0)) (hno: ∀c,c∈cs0->noJ 3 c=true):
  ACallH Tryz.prog 192 [.box cs0,.box (fC F)] [.c (.ptr 1 0),.c (.int .i64 (n:Int))] [.box cs0,.box (fC F)] (.c (.slice (A0x (A1h F n)) .none)):=by
 have hroot:=fun (v:Nat) (hv:v<12) (H:List Blk) (hH:H[1]? =some (.box (fC F)))=>A6I F hF v hv (id:=1) hH;refine ACallH.of_body Tryz.func192 rfl (by kernel_rfl) ?_;simp only [entry,Tryz.ntmps192,List.length_cons,List.length_nil,Nat.reduceAdd,Nat.reduceSub,List.replicate_succ,List.replicate_zero,List.cons_append,List.nil_append];refine zR Qw8 Qw8 Qw8 ?_;refine AWp.weak (Weak.asVec 5 1 rfl rfl (by simp)) ?_;simp only [List.length_cons,List.length_nil,List.set_cons_succ,List.set_cons_zero,List.cons_append,List.nil_append,Xk];refine AWp.loopS (α:=(Nat×Nat)) 43 (fun s=>[(0,.c (.ptr 1 0)),(5,.c (.vec 3 (A0H F s.1).length s.2)),(6,.c (.map 2)),(10,.c (.int .i64 (n:Int))),(11,.c (.int .i64 (s.1:Int)))]) (fun s=>.box cs0:: .box (fC F):: .map (mR 0 (A0H F s.1)):: .box (chI 4 (A1h F s.1)++List.replicate (s.2-(A0H F s.1).length) .any)::chJ (A1h F s.1)) (fun s=>s.1≤n∧(A0H F s.1).length≤s.2) (fun s=>n-s.1) ((0,0)) (hk:=Weak.headL ((A0H F ((0,0)).1).length+4) 43 [0,5,6,10,11] (by (repeat' (first | exact A0l _ | exact A0r _ | exact A0h _ | refine Qw7 ?_ ?_ | refine A0i ?_ ?_ | refine A0k ?_ ?_ | refine A0g ?_ ?_ | exact Qw6 | exact A20 (by rw [A0I]; omega) | exact A2b | exact hcs _ (by omega) | exact A0Y | (show _<_; omega) | exact A0p (fun _=>Qw6) | (intro c hc; cases hc; done) | (intro c hc; simp only [Qw,Qv,or_false] at hc; subst hc; first | exact Qw6 | exact A20 (by rw [A0I]; omega) | exact A2b | exact hcs _ (by omega) | exact A0Y | (show _<_; omega)) | (intro c hc; simp only [Qw,Qv,or_false] at hc; rcases hc with rfl | rfl<;>first | exact Qw6 | exact A20 (by rw [A0I]; omega) | exact A2b | exact hcs _ (by omega) | exact A0Y | (show _<_; omega)))))) (h0:=?_) (round:=fun s hI=>?_)
 ·exact ⟨Xj _,QQ _⟩
 ·obtain ⟨v,cap⟩:=s;obtain ⟨hv,hcap⟩:=hI;simp only at hv hcap ⊢;by_cases hlt:v<n
  ·have hltI:(v:Int)<n:=by omega
   have hR:=hroot v (by omega) _ (show (Blk.box cs0:: .box (fC F):: .map (mR 0 (A0H F v)):: .box (chI 4 (A1h F v)++List.replicate (cap-(A0H F v).length) .any)::chJ (A1h F v))[1]? =some (.box (fC F)) from rfl);have hle:=A2p hF (n:=12) (v:=v) (by omega);have hkl:=B57 F v;have hpl:=A0I F v;by_cases hrv:rootF F 12 v=v
   ·rw [hrv] at hR;have hnew:=B7G hF (by omega) hrv;have hsucc:=A3S F v;rw [if_pos hrv] at hsucc;have hnm: ¬v∈A0H F v:=fun h=>by have:=(A5b.1 h).1; omega
    have hput:=C3U hnm;have hnd:=A4B F (v+1);rw [hsucc] at hnd;have hval:=C18 (k:=(A0H F v).length) (r:=v) hnd (by simp) (.c (.int .i64 0));generalize A0H F v=rs at*;generalize A1h F v=ps at*
    repeat' (first|((with_reducible refine AWp.seq (AWp.of_reg (id:=9) (AReg.pre 1 (fun K hK=>?_))));simp only [List.take_succ_cons,List.take_zero])|((with_reducible refine AWp.of_reg (id:=9) (AReg.pre 1 (fun K hK=>?_)));simp only [List.take_succ_cons,List.take_zero])|((first|(refine zT ?_;intro K' hK')|(refine zG ?_ ?_<;>(try refine zH ?_)<;>intro hguard<;>(try exact zX)<;>try intro K' hK'))<;>((try simp+contextual only [go_sem,hltI,hput,A14]);(repeat' first|(with_reducible refine hK' _ _ ?_;clear hK' K')|((with_reducible first|refine ⟨_,_,hR,?_⟩|refine ⟨_,hR,?_⟩);try simp+contextual only [go_sem,hltI,hput,A14])|(refine ⟨_,A7p,rfl,A6g,?_⟩ ; simp+contextual only [go_sem,hltI,hput,A14])|exact zY|with_reducible refine Qw7 ?_ ?_|(with_reducible intro hpath;try exact zP)|(refine hK' _ _ ?_;clear hK' K')|fail);try refine zS ?_))|(refine zE ?_;refine hK _ _ ?_;clear hK K)|(refine zN ?_;try refine zS ?_)|refine zA ?_|(refine zB ?_;intro K hK)|(refine zC ?_ ?_<;>(try refine zH ?_)<;>intro hcond<;>try exact zX)|fail)
    simp only [Zk,ZJ];refine AReg.nilRow (e:=28) (z:= .slice none 0 0) rfl rfl rfl (by simp only [ty]) (by simp only [ty]) (by simp only [ty]) rfl ?_;refine AReg.grow (e:=28) (e2:=28) (by':=24) (z:= .slice none 0 0) (j:=3) (tr:= .raw (.slice none 0 0)) (tok:= .exact) (used:=chI 4 ps) rfl rfl rfl (by simp only [ty]) (by simp only [ty]) (by simp only [ty]) (by simp only [ty]) rfl (by simp only [ty]) rfl rfl (by rw [A2k,hpl]) hcap (by simp) rfl (by omega) (by omega) (B7X hno) C3X (fun cap' hc'=> ?_);refine AReg.rest (fun K hK=> ?_);simp only [Xy,Zx,fgt,B9P,noJ,noK,A1e,List.set_cons_succ,List.set_cons_zero,cellOf,bne_self_eq_false,show ((1:Nat) != 3)=true from rfl,show ((2:Nat) != 3)=true from rfl,if_true,YQ,if_false];have w1:=B1P 4 ps (List.replicate (cap'-(rs.length+1)) .any);have w2:=C23 4 ps [(v:Int)] (List.replicate (cap'-(rs.length+1)) .any);have w4:=B5G 4 ps (List.replicate (cap'-(rs.length+1)) .any);rw [hpl] at w1 w2 w4;have w3:=C05 ps [(v:Int)]
    repeat' (first|(with_reducible refine AWp.seq_drawM B4o A7p C03 (by with_unfolding_all rfl) (by with_unfolding_all kernel_rfl) (fun K hK=>?_))|(with_reducible refine AWp.last_drawM B4o A7p C03 (by with_unfolding_all rfl) (by with_unfolding_all kernel_rfl) (fun K hK=>?_))|((first|(refine zT ?_;intro K' hK')|(refine zG ?_ ?_<;>(try refine zH ?_)<;>intro hguard<;>(try exact zX)<;>try intro K' hK'))<;>((try simp+contextual only [go_sem,hval,w1,w2,w4,chunks,List.range,List.range.loop,A14,Int.toNat_natCast]);(repeat' first|(with_reducible refine hK' _ _ ?_;clear hK' K')|(exact rfl)|(exact A6g)|(with_reducible exact A1s (by assumption))|exact zY|with_reducible refine Qw7 ?_ ?_|(with_reducible intro hpath;try exact zP)|(refine hK' _ _ ?_;clear hK' K')|fail);try refine zS ?_))|(refine zE ?_;refine hK _ _ ?_;clear hK K)|(refine zN ?_;try refine zS ?_)|refine zA ?_|(refine zB ?_;intro K hK)|(refine zC ?_ ?_<;>(try refine zH ?_)<;>intro hcond<;>try exact zX)|fail)
    ·rw [A2k,hpl,Yq]; omega
    ·have hl:(A0H F (v+1)).length=rs.length+1:=by rw [hsucc]; simp
     simp only [A0o,Xy,Zx] at w2;rw [A8q,hpl,w2,<-hnew,<-hsucc,show chJ ps++[Blk.chain 1 1]=chJ (A1h F (v+1)) from by rw [hnew,w3]; rfl];have ht2:(chJ (A1h F (v+1))).take (rs.length+1)=chJ (A1h F (v+1)):=A5Z (by rw [A0I,hl]; exact QQ _);refine ⟨(v+1,cap'),Weak.headF ((A0H F ((v+1,cap')).1).length+4) 43 [0,5,6,10,11] (zc @hl (zc @ht2 Qw8)) (by (repeat' (first | exact A0l _ | exact A0r _ | exact A0h _ | refine Qw7 ?_ ?_ | refine A0i ?_ ?_ | refine A0k ?_ ?_ | refine A0g ?_ ?_ | exact Qw6 | exact A20 (by rw [A0I]; omega) | exact A2b | exact hcs _ (by omega) | exact A0Y | (show _<_; omega) | exact A0p (fun _=>Qw6) | (intro c hc; cases hc; done) | (intro c hc; simp only [Qw,Qv,or_false] at hc; subst hc; first | exact Qw6 | exact A20 (by rw [A0I]; omega) | exact A2b | exact hcs _ (by omega) | exact A0Y | (show _<_; omega)) | (intro c hc; simp only [Qw,Qv,or_false] at hc; rcases hc with rfl | rfl<;>first | exact Qw6 | exact A20 (by rw [A0I]; omega) | exact A2b | exact hcs _ (by omega) | exact A0Y | (show _<_; omega))))),?_,?_⟩
     ·exact ⟨hlt,by rw [hl]; exact hc'⟩
     ·simp only; omega
   ·obtain ⟨r,hr⟩: ∃r,rootF F 12 v=r:=⟨_,rfl⟩;have hrlt:r<v:=by omega
    have hfix:=A76 hF (u:=v) (by omega);rw [hr] at hfix;have hrr:=A4A hF (u:=r) (by omega) hfix;have hmem:r∈A0H F v:=A5b.2 ⟨hrlt,hrr⟩;obtain ⟨k,hk,hkr⟩:=Vq.1 hmem;have hk':(A0H F v)[k]? =some r:=by rw [Qq hk,hkr]
    obtain ⟨e1,e2,e3⟩:=B7H hrv hk' hr;have hval:=C18 (A4B F v) hk' (.c (.int .i64 0));rw [hr] at hR hrv;have hrvI: ¬((r:Int)=v):=by omega
    have hplen:(A7q F v r).length≤v:=by
     unfold A7q;rw [XW];exact Yj (Jq _ _) (by simp)
    generalize A7q F v r=p at*;have hkI:(k:Int)<(A0H F v).length:=by omega
    have g1:=C04 (b:=4) (List.replicate (cap-(A0H F v).length) .any) e2;have g2:=C3W (b:=4) (List.replicate (cap-(A0H F v).length) .any) e2;have g3:=B7r e2;have g4:=C22 4 k (A1h F v) (p++[(v:Int)]) (List.replicate (cap-(A0H F v).length) .any) (by omega);have g5:=B7s k (A1h F v) (p++[(v:Int)]) (n:=p.length+1) (by simp);rw [<-e3] at g4 g5;have hkc:k+1≤(A1h F v).length+(cap-(A0H F v).length):=by omega
    repeat' (first|(with_reducible refine AWp.seq_drawM B4o A7p C03 (by with_unfolding_all rfl) (by with_unfolding_all kernel_rfl) (fun K hK=>?_))|(with_reducible refine AWp.last_drawM B4o A7p C03 (by with_unfolding_all rfl) (by with_unfolding_all kernel_rfl) (fun K hK=>?_))|((first|(refine zT ?_;intro K' hK')|(refine zG ?_ ?_<;>(try refine zH ?_)<;>intro hguard<;>(try exact zX)<;>try intro K' hK'))<;>((try simp+contextual only [go_sem,hltI,hrvI,hkI,hval,g1,g2,g3,g4,g5,A2k,A8q,hpl,hkc,A0e,A1O,chunks,List.range,List.range.loop,A14,Int.toNat_natCast,Yq]);(repeat' first|(with_reducible refine hK' _ _ ?_;clear hK' K')|((with_reducible first|refine ⟨_,_,hR,?_⟩|refine ⟨_,hR,?_⟩);try simp+contextual only [go_sem,hltI,hrvI,hkI,hval,g1,g2,g3,g4,g5,A2k,A8q,hpl,hkc,A0e,A1O,chunks,List.range,List.range.loop,A14,Int.toNat_natCast,Yq])|(exact rfl)|(exact A6g)|(with_reducible exact A1s (by assumption))|exact zY|with_reducible refine Qw7 ?_ ?_|(with_reducible intro hpath;try exact zP)|(refine hK' _ _ ?_;clear hK' K')|fail);try refine zS ?_))|(refine zE ?_;refine hK _ _ ?_;clear hK K)|(refine zN ?_;try refine zS ?_)|refine zA ?_|(refine zB ?_;intro K hK)|(refine zC ?_ ?_<;>(try refine zH ?_)<;>intro hcond<;>try exact zX)|fail)
    have ht2:(chJ (A1h F (v+1))).take (A0H F v).length=chJ (A1h F (v+1)):=A5Z (by rw [A0I,e1]; exact QQ _);refine ⟨(v+1,cap),Weak.headF ((A0H F ((v+1,cap)).1).length+4) 43 [0,5,6,10,11] (zc @e1 (zc @ht2 Qw8)) (by (repeat' (first | exact A0l _ | exact A0r _ | exact A0h _ | refine Qw7 ?_ ?_ | refine A0i ?_ ?_ | refine A0k ?_ ?_ | refine A0g ?_ ?_ | exact Qw6 | exact A20 (by rw [A0I]; omega) | exact A2b | exact hcs _ (by omega) | exact A0Y | (show _<_; omega) | exact A0p (fun _=>Qw6) | (intro c hc; cases hc; done) | (intro c hc; simp only [Qw,Qv,or_false] at hc; subst hc; first | exact Qw6 | exact A20 (by rw [A0I]; omega) | exact A2b | exact hcs _ (by omega) | exact A0Y | (show _<_; omega)) | (intro c hc; simp only [Qw,Qv,or_false] at hc; rcases hc with rfl | rfl<;>first | exact Qw6 | exact A20 (by rw [A0I]; omega) | exact A2b | exact hcs _ (by omega) | exact A0Y | (show _<_; omega))))),?_,?_⟩
    ·exact ⟨hlt,by rw [e1]; exact hcap⟩
    ·simp only; omega
  ·have ev:v=n:=by omega
   subst ev;have hnl: ¬((v:Int)<v):=by omega
   have hpos:0<(A0H F v).length:=Wj.2 fun h=>by
    have h0:0∈A0H F v:=A5b.2 ⟨by omega,by have:=A2p hF (n:=12) (v:=0) (by omega); omega⟩;rw [h] at h0; cases h0
   refine zJ (stop 12) (zc @hnl Qw8) Qw8 Qw8 Qw8 ?_;refine AWp.vecData 5 3 4 ((A1h F v).map A0o) rfl rfl hpos hcap (by rw [XW,A0I]) (by simp) ?_;rw [C14];simp only [List.set_cons_succ,List.set_cons_zero];refine AWp.weak (Weak.head2 (m:=2) (by first | omega | simp) ((fun t f=>[f,f,f,f,f,t,f,f,f,f,f,f,f,f,f,f,f,f,f,f,f,f,f,f,f,f,f,f,f,f,f,f,f,f,f,f,f,f,f,f,f,f,f]) true false) rfl rfl (by (repeat' (first | exact A0l _ | exact A0r _ | exact A0h _ | refine Qw7 ?_ ?_ | refine A0i ?_ ?_ | refine A0k ?_ ?_ | refine A0g ?_ ?_ | exact Qw6 | exact A20 (by rw [A0I]; omega) | exact A2b | exact hcs _ (by omega) | exact A0Y | (show _<_; omega) | exact A0p (fun _=>Qw6) | (intro c hc; cases hc; done) | (intro c hc; simp only [Qw,Qv,or_false] at hc; subst hc; first | exact Qw6 | exact A20 (by rw [A0I]; omega) | exact A2b | exact hcs _ (by omega) | exact A0Y | (show _<_; omega)) | (intro c hc; simp only [Qw,Qv,or_false] at hc; rcases hc with rfl | rfl<;>first | exact Qw6 | exact A20 (by rw [A0I]; omega) | exact A2b | exact hcs _ (by omega) | exact A0Y | (show _<_; omega)))))) ?_;simp only [mask,List.take_succ_cons,List.take_zero,List.set_cons_succ,List.set_cons_zero];refine zR Qw8 Qw8 Qw8 ?_;simp [A4y,A1S,A0t,A1R,Tryz.results192]
theorem B1Q {g:G} (hc:checkG g=0) (p:Int×Int):p∈A1Q g.es↔p∈endsL g.es:=by
 constructor
 ·intro h;obtain ⟨e,he,rfl⟩:=Xq.1 h;have:=(A0j.1 hc).2.1 e he;unfold okE at this;exact Qq1.2 ⟨e,he,WV.2 ⟨by omega,rfl⟩⟩
 ·intro h;obtain ⟨e,he,rfl⟩:=A37 h;exact Xq.2 ⟨e,he,rfl⟩
theorem B3m {F:List Nat} (hF:FOk F): ∀n,n≤12->rootsN F n=(A0H F n).length:=by
 intro n
 induction n with
 | zero=>intro _; rfl
 | succ n ih=>
  intro hn;rw [A3S];simp only [rootsN,ih (by omega)];by_cases h:rootF F 12 n=n
  ·rw [if_pos h,if_pos ((B04 hF (by omega)).1 h)]; simp
  ·rw [if_neg h,if_neg (fun e=>h ((B04 hF (by omega)).2 e))]; simp
theorem B5H {l m:List (Int×Int)} (hl:B7C l) (hm:B7C m) (h: ∀p,p∈l↔p∈m): ∀n,n≤12->rootsN (genS l).1 n=rootsN (genS m).1 n:=by
 intro n
 induction n with
 | zero=>intro _; rfl
 | succ n ih=>
  intro hn;simp only [rootsN,ih (by omega)];have h1:=A3A hl (v:=n) (by omega);have h2:=A3A hm (v:=n) (by omega);have h3:(∃u,u<n∧Conn l u n)↔(∃u,u<n∧Conn m u n):=
   ⟨fun ⟨u,h4,h5⟩=>⟨u,h4,h5.mono fun p hp=>(h p).1 hp⟩,fun ⟨u,h4,h5⟩=>⟨u,h4,h5.mono fun p hp=>(h p).2 hp⟩⟩
  by_cases e:(genS l).1[n]? =some n
  ·rw [if_pos e,if_pos (h2.2 fun x=>h1.1 e (h3.2 x))]
  ·rw [if_neg e,if_neg (fun x=>e (h1.2 fun y=>h2.1 x (h3.1 y)))]
theorem B1R {g:G} {n:Nat} (hc:checkG g=0) (hn:g.n=n):(A1h (genS (A1Q g.es)).1 n).length=A1J g.es n n:=by
 have h12:=(A0j.1 hc).1;have hp:=A6L hc;have he:B7C (endsL g.es):=fun p h=>hp p ((B1Q hc p).2 h);have h1:=A55 hc hn n (QQ _);have h2:=B5H hp he (B1Q hc) n (by omega);have h3:=B3m (uf _ hp).ok n (by omega);rw [A0I]; omega
theorem B07 (g:G) (hl:g.es.length<2^30):ACall Tryz.prog 167 [tG g] (.tup [A0N (if checkG g≠0 then [] else A1h (genS (A1Q g.es)).1 g.n.toNat),A0m (checkG g)]):=by
 have hC:=A71 g (by omega);by_cases hc:checkG g=0
 ·have hJ:=B5F g hc hl;have hF:=(uf _ (A6L hc)).ok;have h12:=(A0j.1 hc).1;rw [if_neg (by omega),hc];rw [hc] at hC;have hlF:=hF.len;unfold tF at hJ;obtain ⟨n,es⟩:=g;simp only at hJ h12 ⊢;generalize (genS (A1Q es)).1=F at*
  have hP3:=B7Y F hF n.toNat (by omega) (by omega) [.int .i64 n,.slice (A0f es) .none] (fun m _ c hc=>by
   simp only [Qw,Qv,or_false] at hc
   rcases hc with rfl | rfl<;>exact Qw6) (fun c hc=>by
   simp only [Qw,Qv,or_false] at hc
   rcases hc with rfl | rfl<;>rfl)
  rw [show ((n.toNat:Nat):Int)=n by omega] at hP3;generalize A1h F n.toNat=ps at*;have hof:(fT F).map A03=fC F:=B58 F;have hst:=A3p A2v F (by rw [hlF]; rfl);have hz:fC A2v=[.int .i64 0,.int .i64 0,.int .i64 0,.int .i64 0,.int .i64 0,.int .i64 0,.int .i64 0,.int .i64 0,.int .i64 0,.int .i64 0,.int .i64 0,.int .i64 0]:=rfl;rw [hz] at hst;refine ACall.of_body Tryz.func167 rfl (by kernel_rfl) ?_;simp only [entry,Tryz.ntmps167,tG];refine zU ?_;refine zJ Qw8 (zc @A0U (zc @A3T (zc @hof (zc @hst (zc @hlF Qw8))))) (zc hC (zc hJ Qw8)) (zc hP3 Qw8) Qw8 ?_;simp [A0z,A0y,Blk.cells,ty,Tryz.results167,A0t,A0u,toT,A0d,A0b,A0c,A0a,A0m,A0N]
 ·rw [if_pos hc];generalize checkG g=E at*;obtain ⟨n,es⟩:=g;refine ACall.of_body Tryz.func167 rfl (by kernel_rfl) ?_;simp only [entry,Tryz.ntmps167,tG];refine zU ?_;refine zR (zc @hc Qw8) (zc hC Qw8) Qw8 ?_;simp [A0z,A0y,Blk.cells,ty,Tryz.results167,A0t,A0u,toT,A0d,A0b,A0c,A0a,A0m,A0N,A0x]
theorem A3q (g:G) (hl:g.es.length<2^30):ACall Tryz.prog 129 [tG g] (.tup [A0v (decide (checkG g=0)&&connB g),A0m (checkG g)]):=by
 have hC:=B07 g hl;by_cases hc:checkG g=0
 ·have h12:=(A0j.1 hc).1;have hcnt:=B1R (n:=g.n.toNat) hc (by omega);rw [if_neg (by omega)] at hC;have hb:(decide (checkG g=0)&&connB g)=decide (((A1h (genS (A1Q g.es)).1 g.n.toNat).length:Int)=1):=by
   rw [decide_eq_true hc,Jy];unfold connB;rw [<-hcnt];exact decide_eq_decide.2 (by omega)
  rw [hb];generalize A1h (genS (A1Q g.es)).1 g.n.toNat=ps at*;generalize checkG g=E at*;obtain ⟨n,es⟩:=g;refine ACall.of_body Tryz.func129 rfl (by kernel_rfl) ?_;simp only [entry,Tryz.ntmps129,tG];refine zU ?_;refine zR (zc @A0q Qw8) (zc hC Qw8) Qw8 ?_;simp [A0z,A0y,Blk.cells,ty,Tryz.results129,A0t,A0u,toT,A0d,A0b,A0c,A0a,A0m,A0v]
 ·rw [if_pos hc] at hC;rw [decide_eq_false hc,Qq3];generalize checkG g=E at*;obtain ⟨n,es⟩:=g;refine ACall.of_body Tryz.func129 rfl (by kernel_rfl) ?_;simp only [entry,Tryz.ntmps129,tG];refine zU ?_;refine zR (zc @A0q Qw8) (zc hC Qw8) Qw8 ?_;simp [A0z,A0y,Blk.cells,ty,Tryz.results129,A0t,A0u,toT,A0d,A0b,A0c,A0a,A0m,A0v]
structure RSm (r:R):Prop where
 es:r.es.length≤40
 ar:r.ar.length<2^20
 l: ∀l,l∈r.ar->l.length<2^20
theorem A26 {g:G} (hl:g.es.length≤40) (hc:checkG g=0):(endsL g.es).length≤2000:=by
 obtain ⟨_,h2,_⟩:=A0j.1 hc;have:=A5V (es:=g.es) fun e he=>by have:=h2 e he; unfold okE at this; omega
 omega
theorem A9J (g:G) (hl:g.es.length≤40):ACall Tryz.prog 130 [tG g] (.tup [A0B (if checkG g≠0 then [] else endsL g.es),A0m (A0s g)]):=by
 have hE:=B2N g (by omega);have hC:=A3q g (by omega);unfold A0s;by_cases hc:checkG g=0
 ·rw [if_neg (by omega)] at hE ⊢;rw [if_neg (by omega)];rw [hc,decide_eq_true rfl,Jy] at hC;generalize connB g=b at*;generalize endsL g.es=L at*;obtain ⟨n,es⟩:=g;refine ACall.of_body Tryz.func130 rfl (by kernel_rfl) ?_;simp only [entry,Tryz.ntmps130,tG];refine zU ?_;cases b with
  | true=>
   rw [if_pos rfl];refine zR Qw8 (zc hE (zc hC Qw8)) Qw8 ?_;simp [A0z,A0y,Blk.cells,ty,Tryz.results130,A0t,A0u,toT,A0d,A0b,A0c,A0a,A0m,A0B]
  | false=>
   rw [if_neg (by simp)];refine zR Qw8 (zc hE (zc hC Qw8)) Qw8 ?_;simp [A0z,A0y,Blk.cells,ty,Tryz.results130,A0t,A0u,toT,A0d,A0b,A0c,A0a,A0m,A0B]
 ·rw [if_pos hc] at hE ⊢;rw [if_pos hc];generalize checkG g=E at*;obtain ⟨n,es⟩:=g;refine ACall.of_body Tryz.func130 rfl (by kernel_rfl) ?_;simp only [entry,Tryz.ntmps130,tG];refine zU ?_;refine zR (zc @hc Qw8) (zc hE Qw8) Qw8 ?_;simp [A0z,A0y,Blk.cells,ty,Tryz.results130,A0t,A0u,toT,A0d,A0b,A0c,A0a,A0m,A0B,A1b]
theorem B3n (r:R) (hr:RSm r):ACall Tryz.prog 105 [tR r] (.tup [A0B (if ribE r≠0 then [] else endsL r.es),A0m (ribE r)]):=by
 have hJ:=A9J r.g hr.es;by_cases hj:A0s r.g=0
 case neg=>
  have e:ribE r=A0s r.g:=by unfold ribE; rw [if_pos hj]
  rw [e,if_pos hj];have hL: ∃L,(if checkG r.g≠0 then [] else endsL r.g.es)=L:=⟨_,rfl⟩;obtain ⟨L,hL⟩:=hL;rw [hL] at hJ;generalize A0s r.g=E at*;obtain ⟨n,es,ar⟩:=r;refine ACall.of_body Tryz.func105 rfl (by kernel_rfl) ?_;simp only [entry,Tryz.ntmps105,tR];refine zU ?_;refine zR (zc @hj Qw8) (zc hJ Qw8) Qw8 ?_;simp [A0z,A0y,Blk.cells,ty,Tryz.results105,A0t,A0u,toT,A0d,A0b,A0c,A0a,A0m,A0B,A1b]
 have hc:checkG r.g=0:=by
  unfold A0s at hj;by_cases h:checkG r.g=0
  ·exact h
  ·rw [if_pos h] at hj; exact absurd hj h
 have h12:=(A0j.1 hc).1;rw [if_neg (by omega),hj] at hJ;have hlen:=A26 (g:=r.g) hr.es hc;have hat: ∀h,h<2*(endsL r.es).length->0≤atL (endsL r.es) h∧atL (endsL r.es) h<(r.n.toNat:Nat):=fun h hh=>by
  have h12':1≤r.n:=h12.1;have:=A1D hc hh; omega
 have hn:r.n=(r.n.toNat:Nat):=by have h12':1≤r.n:=h12.1; omega
 have hnb:r.n≤12:=h12.2;have hA:=hr.ar;have hLl:=hr.l;have eR:ribE r=if (r.ar.length:Int)≠r.n then 8 else A8Y (endsL r.es) (2*(endsL r.es).length) 0 r.ar:=by unfold ribE; rw [if_neg (by omega)]
 rw [eR];have hH:=B1H (endsL r.es) r.n.toNat (by omega) (by have:(endsL r.es).length≤2000:=hlen; omega) hat;rw [<-hn] at hH;clear hr hj hc h12 hat eR;obtain ⟨n,es,ar⟩:=r;simp only [R.g] at hJ hlen hH hn hnb hA hLl ⊢;generalize endsL es=L at*;generalize hk:n.toNat=k at*;subst hn;refine ACall.of_body Tryz.func105 rfl (by kernel_rfl) ?_;simp only [entry,Tryz.ntmps105,tR];refine zU ?_;by_cases hlen2:ar.length=k
 case neg=>
  have hI: ¬((ar.length:Int)=k):=by omega
  rw [if_pos hI];refine zR (zc @A0q (zc @hI Qw8)) (zc hJ Qw8) Qw8 ?_;simp [A0z,A0y,Blk.cells,ty,Tryz.results105,A0t,A0u,toT,A0d,A0b,A0c,A0a,A0m,A0B,A1b]
 have hI:(ar.length:Int)=k:=by omega
 rw [if_neg (show ¬((ar.length:Int)≠(k:Int)) by omega)];refine zR (zc @A0q (zc @hI (zc @A0G Qw8))) (zc hJ (zc hH Qw8)) Qw8 ?_;refine AWp.loopS (α:=Nat) 48 (fun i=>[(1,.c (.ptr 0 0)),(4,.c (.slice (A1b L) .none)),(29,.c (.slice (A0x (A1g L k (2*L.length))) .none)),(30,.c (.int .i64 (k:Int))),(31,.c (.int .i64 (i:Int)))]) (fun i=>[.box [.int .i64 (k:Int),.slice (A0f es) .none,.slice (A0x ar) .none]]) (fun i=>i≤k∧A8Y L (2*L.length) 0 ar=A8Y L (2*L.length) i (ar.drop i)) (fun i=>k-i) (0) (hk:=Weak.headL 1 48 [1,4,29,30,31] zW) (h0:=?_) (round:=fun i hI=>?_)
 ·exact ⟨Xj _,rfl⟩
 ·obtain ⟨hi,hI2⟩:=hI;by_cases hlt:i<k
  ·have hltI:(i:Int)<k:=by omega
   have hil:i<ar.length:=by omega
   have e0:=Qq hil;have e1:=A0X e0;have e2:=A0X (A2S (L:=L) (k:=2*L.length) hlt);have hd:=Zy hil;have hl:=hLl _ (Xv hil);generalize ar[i]=l at*;have hol:=B00 L (i:Int) (2*L.length);have hlist:=C2o l (ownL L (i:Int) (2*L.length)) (B2R _ _ _) (by omega) (by omega);have hg:A8Y L (2*L.length) i (l::ar.drop (i+1))=if A2c l (ownL L (i:Int) (2*L.length))≠0 then A2c l (ownL L (i:Int) (2*L.length)) else A8Y L (2*L.length) (i+1) (ar.drop (i+1)):=rfl
   rw [<-hd,<-hI2] at hg;generalize A2c l (ownL L (i:Int) (2*L.length))=E at*;by_cases hE:E=0
   ·rw [if_neg (by omega)] at hg;subst hE;refine zR (zc @hltI (zc @A0q (zc @hI (zc @e1 (zc @e2 Qw8))))) (zc hlist Qw8) Qw8 ?_;refine ⟨i+1,Weak.headN 1 48 [1,4,29,30,31] zW,?_,?_⟩
    ·exact ⟨hlt,hg⟩
    ·omega
   ·rw [if_pos hE] at hg;rw [hg,if_pos hE];refine zR (zc @hltI (zc @A0q (zc @hI (zc @e1 (zc @e2 (zc @hE Qw8)))))) (zc hlist Qw8) Qw8 ?_;simp [A0z,A0y,Blk.cells,ty,Tryz.results105,A0t,A0u,toT,A0d,A0b,A0c,A0a,A0m,A0B,A1b]
  ·have ei:i=k:=by omega
   subst ei;have hz:A8Y L (2*L.length) 0 ar=0:=by rw [hI2,Vx (by omega)]; rfl
   have hnl: ¬((i:Int)<i):=by omega
   rw [hz,if_neg (by omega)];refine zR (zc @hnl Qw8) Qw8 Qw8 ?_;simp [A0z,A0y,Blk.cells,ty,Tryz.results105,A0t,A0u,toT,A0d,A0b,A0c,A0a,A0m,A0B]
theorem C1A {l:List Int} (hn:l.Nodup) {i:Nat} {x:Int} (h:l[i]? =some x):l.idxOf x=i:=by
 obtain ⟨hi,e⟩:=Qx.1 h;obtain ⟨q1,q2⟩:=A3o (Qy h);have:=(Qx.1 q2).2;exact B4d hn q1 hi (this.trans e.symm)
section
variable {r:R}
end
theorem C4V (i n:Nat):Int.tmod ((i:Int)+1) (n:Int)=(((i+1)%n:Nat):Int):=rfl
end Go.Proofs.YtdbdfkohpjefjaaGreat
