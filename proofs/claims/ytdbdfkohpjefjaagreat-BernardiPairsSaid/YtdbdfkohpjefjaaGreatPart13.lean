/- A part of the proof. -/
import Derived.Test.YtdbdfkohpjefjaaGreatPart10
import Derived.Test.YtdbdfkohpjefjaaGreatPart12
import Derived.Test.YtdbdfkohpjefjaaGreatPart11
set_option linter.all false
set_option maxHeartbeats 4000000
set_option maxRecDepth 100000
namespace Go.Proofs.YtdbdfkohpjefjaaGreat
open Go.Sp
section
def A2a (es:List E):List (Int×Int):=es.map fun e=>(e.a,e.b)
def B42 {g:G} (hc:checkG g=0) {p:Int×Int} (h:p∈A2a g.es):(0≤p.1∧p.1<g.n)∧(0≤p.2∧p.2<g.n):=by
 obtain ⟨e,he,rfl⟩:=QJ.1 h;have:=(A0j.1 hc).2.1 e he;unfold okE at this;simp only; omega
def A7y {g:G} (hc:checkG g=0):B9i (A2a g.es):=fun p hp=>by
 have:=B42 hc hp;have:=(A0j.1 hc).1;omega
def A2A:List Nat:=List.replicate 12 0
def B7e:A2A.length=12:=by simp [A2A]
def B7f (g:G) (hc:checkG g=0) (hl:g.es.length<2^30):ACall Tryz.prog 191 [tG g] (tF (genS (A2a g.es)).1):=by
 have h12:=A7y hc;obtain ⟨n,es⟩:=g;simp only at h12 hl ⊢;have hg:=B9q;have hr12:(List.range 12).length=12:=Vk;have h0:(genS ((A2a es).take 0)).1=List.range 12:=rfl;refine ACall.of_body Tryz.func191 rfl (by kernel_rfl) ?_;simp only [entry,Tryz.ntmps191,tG];refine zU ?_;generalize hR:List.range 12=R at*;have hof:(fT R).map A02=fC R:=B6V R;have hst:=A3B A2A R (by rw [hr12]; rfl);have hlz:A2A.length=12:=B7e;have hz:fC A2A=[.int .i64 0,.int .i64 0,.int .i64 0,.int .i64 0,.int .i64 0,.int .i64 0,.int .i64 0,.int .i64 0,.int .i64 0,.int .i64 0,.int .i64 0,.int .i64 0]:=rfl;rw [hz] at hst;unfold tF at hg;refine zR (zc @A07 (zc @A1d (zc @A4q (zc @hof (zc @hst (zc @hr12 Qv6)))))) (zc hg Qv6) Qv6 ?_;rw [<-h0];refine AWp.loopS (α:=Nat) 21 (fun i=>[(2,.c (.ptr 1 0)),(3,.c (.ptr 2 0)),(8,.c (.slice (A0f es) .none)),(9,.c (.int .i64 (es.length:Int))),(10,.c (.int .i64 (i:Int)))]) (fun i=>[.box [.int .i64 n,.slice (A0f es) .none],.box (fC A2A),.box (fC (genS ((A2a es).take i)).1)]) (fun i=>i≤es.length) (fun i=>es.length-i) (0) (hk:=Weak.headL 3 21 [2,3,8,9,10] (zV @A1c)) (h0:=?_) (round:=fun i hI=>?_)
 ·exact Xw _
 ·have hi:i≤es.length:=hI;clear hI;have hok:=B8W (l:=(A2a es).take i) fun q hq=>h12 q (Vy hq);by_cases hlt:i<es.length
  ·have hltI:(i:Int)<es.length:=by omega
   have e0:=Qq hlt;have e1:=A2g e0;have hp:(A2a es)[i]? =some (es[i].a,es[i].b):=by simp [A2a,e0]
   have hsn:=take_snoc hp;have hnx:=A9f ((A2a es).take i) (es[i].a,es[i].b);rw [<-hsn] at hnx;have hrng:=h12 _ (Qy hp);generalize es[i]=x at*;obtain ⟨xa,xb,xm⟩:=x;simp only at hrng hnx e1;obtain ⟨a,rfl⟩:=XV hrng.1.1;obtain ⟨b,rfl⟩:=XV hrng.2.1;have ha:a<12:=by omega
   have hb:b<12:=by omega
   have hF:=hok.1;simp only [A1I,Int.toNat_natCast] at hnx;have hn1:=congrArg Prod.fst hnx;simp only at hn1;generalize (genS ((A2a es).take i)).1=F at*;have hJ:=C2o F hF a b ha hb (H:=[.box [.int .i64 n,.slice (A0f es) .none],.box (fC A2A),.box (fC F),.box [.int .i64 (a:Int),.int .i64 (b:Int),.int .i64 xm]]) (id:=2) rfl;rw [<-hn1] at hJ;simp only [List.set_cons_succ,List.set_cons_zero] at hJ;refine zJ Qv6 (zc @hltI (zc @e1 (zc @A07 Qv6))) Qv6 (zc hJ Qv6) Qv6 ?_;refine ⟨i+1,Weak.headN 3 21 [2,3,8,9,10] (zV @A1c),?_,?_⟩
   ·exact hlt
   ·omega
  ·have ei:i=es.length:=by omega
   subst ei;have hnl: ¬((es.length:Int)<es.length):=by omega
   have htk:(A2a es).take es.length=A2a es:=ZZ (by simp [A2a]);rw [htk];rw [htk] at hok;have hlF:=hok.1.len;generalize (genS (A2a es)).1=F at*;have ht:(fC F).take 12=fC F:=ZZ (by rw [A1d,hlF]; exact QQ _);have hs:=A3B A2A F (by rw [hlF]; rfl);generalize A2A=Z at*;refine zR (zc @hnl (zc @A1d (zc @hlF (zc @hlz (zc @ht (zc @hs (zc @A4q Qv6))))))) Qv6 Qv6 ?_;have hm:=A6C [Blk.box [.int .i64 n,.slice (A0f es) .none],Blk.box (fC F),Blk.box (fC F)] F;simp [A00,A0z,Blk.cells,ty,Tryz.results191,A0v,A0w,toT,A0d,A0b,A0c,A0a,hm,hlF,ht,A1d,tF]
def B58:B1Y Tryz.prog 134=some (3,3):=by simp only [ty]
def C2u:A09 Tryz.prog 3=some (.int .i64 0):=by simp only [ty]
def A0P (F:List Nat) (v:Nat):(A1n F v).length=(A0M F v).length:=by simp [A1n]
def A2H {m b:Nat} {ls:List (List Int)} {n:Nat} (h:b+ls.length≤m):blkIn m (.box (chI b ls++List.replicate n .any)):=C4f (by simpa using h)
def C4A (b i:Nat) (ls:List (List Int)) (l:List Int) (R:List ACell) (h:i<ls.length):(chI b ls++R).set i (.slice (A0p l) (.chain (i+b)))=chI b (ls.set i l)++R:=by
 rw [Qx2 _ _ (by rw [A2w]; exact h),B8N]
def C6q {b i:Nat} {ls:List (List Int)} {l:List Int} (R:List ACell) (h:ls[i]? =some l):(chI b ls++R).drop i= .slice (A0p l) (.chain (i+b))::(chI b ls++R).drop (i+1):=by
 have hl:=(Qx.1 h).1;rw [List.drop_append_of_le_length (by rw [A2w]; omega),List.drop_append_of_le_length (by rw [A2w]; omega),B5y h]; rfl
def C4B (b:Nat) (ls:List (List Int)) (l:List Int) (R:List ACell):(chI b ls++[ACell.nils]++R).set ls.length (.slice (A0p l) (.chain (ls.length+b)))=chI b (ls++[l])++R:=by
 rw [Zk,Vq _ _ (by rw [A2w]; exact QQ _),A2w,Jz];unfold chI;rw [WY,XQ,ZX,B5o];simp
def B2S (b:Nat) (ls:List (List Int)) (R:List ACell):(chI b ls++[ACell.nils]++R).drop ls.length= .nils::R:=by
 rw [Zk,List.drop_append,A2w,Jz,JY (by rw [A2w]; exact QQ _)]; rfl
def B7g (b:Nat) (ls:List (List Int)) (R:List ACell):(chI b ls++[ACell.nils]++R)[ls.length]? =some .nils:=by
 have:=congrArg (·[0]?) (B2S b ls R);simpa using this
def C2v {b i:Nat} {ls:List (List Int)} {l:List Int} (R:List ACell) (h:ls[i]? =some l):(chI b ls++R)[i]? =some (.slice (A0p l) (.chain (i+b))):=by
 have hl:=(Qx.1 h).1;rw [Qk (by rw [A2w]; exact hl)];exact B8M h
def C2w (ls:List (List Int)) (l:List Int):chJ (ls++[l])=chJ ls++[.chain l.length 1]:=by
 unfold chJ; rw [WY,XQ,ZX,C1D,A0e]
def C6r {j b:Nat} {ls:List (List Int)}: ∀c,c∈chI b ls->noJ j c=true:=C3x
@[simp] theorem C6s (F:List Nat) (v:Nat):(chJ (A1n F v)).take (A0M F v).length=chJ (A1n F v):=A65 (by rw [A0P]; exact QQ _)
def B95 {cs0:List ACell} {F:List Nat} (h0: ∀c,c∈cs0->noJ 3 c=true) {es:List (MKey×MV)} {b:Blk} {ps:List (List Int)}: ∀(i:Nat) blk,(Blk.box cs0:: .box (fC F):: .map es::b::chJ ps)[i]? =some blk->i≠3->noB 3 blk
 | 0,blk,h,_=>by simp at h; subst h; exact h0
 | 1,blk,h,_=>by
  simp at h; subst h;intro c hc;obtain ⟨n,_,rfl⟩:=QJ.1 hc;rfl
 | 2,blk,h,_=>by simp at h; subst h; trivial
 | 3,blk,h,hn=>absurd rfl hn
 | i+4,blk,h,_=>by
  have hm:=Qy (l:=chJ ps) (i:=i) (a:=blk) (by simpa using h);obtain ⟨r,_,rfl⟩:=QJ.1 hm;trivial
def B96 (F:List Nat) (hF:FOk F) (n:Nat) (h1:1≤n) (hn:n≤12) (cs0:List ACell) (hcs: ∀m,2≤m->blkIn m (.box cs0)) (hno: ∀c,c∈cs0->noJ 3 c=true):
  ACallH Tryz.prog 192 [.box cs0,.box (fC F)] [.c (.ptr 1 0),.c (.int .i64 (n:Int))] [.box cs0,.box (fC F)] (.c (.slice (A0u (A1n F n)) .none)):=by
 have hroot:=fun (v:Nat) (hv:v<12) (H:List Blk) (hH:H[1]? =some (.box (fC F)))=>A7t F hF v hv (id:=1) hH;refine ACallH.of_body Tryz.func192 rfl (by kernel_rfl) ?_;simp only [entry,Tryz.ntmps192,List.length_cons,List.length_nil,Nat.reduceAdd,Nat.reduceSub,List.replicate_succ,List.replicate_zero,List.cons_append,List.nil_append];refine zR Qv6 Qv6 Qv6 ?_;refine AWp.weak (Weak.asVec 5 1 rfl rfl (by simp)) ?_;simp only [List.length_cons,List.length_nil,List.set_cons_succ,List.set_cons_zero,List.cons_append,List.nil_append,XX];refine AWp.loopS (α:=(Nat×Nat)) 43 (fun s=>[(0,.c (.ptr 1 0)),(5,.c (.vec 3 (A0M F s.1).length s.2)),(6,.c (.map 2)),(10,.c (.int .i64 (n:Int))),(11,.c (.int .i64 (s.1:Int)))]) (fun s=>.box cs0:: .box (fC F):: .map (mR 0 (A0M F s.1)):: .box (chI 4 (A1n F s.1)++List.replicate (s.2-(A0M F s.1).length) .any)::chJ (A1n F s.1)) (fun s=>s.1≤n∧(A0M F s.1).length≤s.2) (fun s=>n-s.1) ((0,0)) (hk:=Weak.headL ((A0M F ((0,0)).1).length+4) 43 [0,5,6,10,11] (by (repeat' (first | exact A0m _ | exact A0s _ | exact A0i _ | refine Qv5 ?_ ?_ | refine A0k ?_ ?_ | refine A0l ?_ ?_ | refine A0h ?_ ?_ | exact Qv4 | exact A2H (by rw [A0P]; omega) | exact A2o | exact hcs _ (by omega) | exact A1c | (show _<_; omega) | exact A0r (fun _=>Qv4) | (intro c hc; cases hc; done) | (intro c hc; simp only [Qw,Qv,or_false] at hc; subst hc; first | exact Qv4 | exact A2H (by rw [A0P]; omega) | exact A2o | exact hcs _ (by omega) | exact A1c | (show _<_; omega)) | (intro c hc; simp only [Qw,Qv,or_false] at hc; rcases hc with rfl | rfl<;>first | exact Qv4 | exact A2H (by rw [A0P]; omega) | exact A2o | exact hcs _ (by omega) | exact A1c | (show _<_; omega)))))) (h0:=?_) (round:=fun s hI=>?_)
 ·exact ⟨Xw _,QQ _⟩
 ·obtain ⟨v,cap⟩:=s;obtain ⟨hv,hcap⟩:=hI;simp only at hv hcap ⊢;by_cases hlt:v<n
  ·have hltI:(v:Int)<n:=by omega
   have hR:=hroot v (by omega) _ (show (Blk.box cs0:: .box (fC F):: .map (mR 0 (A0M F v)):: .box (chI 4 (A1n F v)++List.replicate (cap-(A0M F v).length) .any)::chJ (A1n F v))[1]? =some (.box (fC F)) from rfl);have hle:=A22 hF (n:=12) (v:=v) (by omega);have hkl:=B6U F v;have hpl:=A0P F v;by_cases hrv:rootF F 12 v=v
   ·rw [hrv] at hR;have hnew:=B9m hF (by omega) hrv;have hsucc:=A4p F v;rw [if_pos hrv] at hsucc;have hnm: ¬v∈A0M F v:=fun h=>by have:=(A51.1 h).1; omega
    have hput:=C6m hnm;have hnd:=A5b F (v+1);rw [hsucc] at hnd;have hval:=C36 (k:=(A0M F v).length) (r:=v) hnd (by simp) (.c (.int .i64 0));generalize A0M F v=rs at*;generalize A1n F v=ps at*;refine zM (zc Qv6 (prt 9 1)) (zc @hltI (zc @hput Qv6)) Qv6 (zc hR (zc (zc A7W A6B) Qv6)) Qv6 (ed fun hp hpc=>?_);simp only [Zw,ZY];refine AReg.nilRow (e:=28) (z:= .slice none 0 0) rfl rfl rfl (by simp only [ty]) (by simp only [ty]) (by simp only [ty]) rfl ?_;refine AReg.grow (e:=28) (e2:=28) (by':=24) (z:= .slice none 0 0) (j:=3) (tr:= .raw (.slice none 0 0)) (tok:= .exact) (used:=chI 4 ps) rfl rfl rfl (by simp only [ty]) (by simp only [ty]) (by simp only [ty]) (by simp only [ty]) rfl (by simp only [ty]) rfl rfl (by rw [A2w,hpl]) hcap (by simp) rfl (by omega) (by omega) (B95 hno) C6r (fun cap' hc'=> ?_);refine AReg.rest (fun K hK=> ?_);simp only [XQ,ZX,fgt,C1A,noJ,noK,A1i,List.set_cons_succ,List.set_cons_zero,cellOf,bne_self_eq_false,show ((1:Nat) != 3)=true from rfl,show ((2:Nat) != 3)=true from rfl,if_true,Yk,if_false];have w1:=B2S 4 ps (List.replicate (cap'-(rs.length+1)) .any);have w2:=C4B 4 ps [(v:Int)] (List.replicate (cap'-(rs.length+1)) .any);have w4:=B7g 4 ps (List.replicate (cap'-(rs.length+1)) .any);rw [hpl] at w1 w2 w4;have w3:=C2w ps [(v:Int)]
    repeat' (first|(with_reducible refine AWp.seq_drawM B58 A7W C2u (by with_unfolding_all rfl) (by with_unfolding_all kernel_rfl) (fun K hK=>?_))|(with_reducible refine AWp.last_drawM B58 A7W C2u (by with_unfolding_all rfl) (by with_unfolding_all kernel_rfl) (fun K hK=>?_))|((first|(refine zT ?_;intro K' hK')|(refine zG ?_ ?_<;>(try refine zH ?_)<;>intro hguard<;>(try exact zX)<;>try intro K' hK'))<;>((try simp+contextual only [go_sem,hval,w1,w2,w4,chunks,List.range,List.range.loop,A2N,Int.toNat_natCast]);(repeat' first|(with_reducible refine hK' _ _ ?_;clear hK' K')|(exact rfl)|(exact A6B)|(with_reducible exact A1v (by assumption))|exact zY|with_reducible refine Qv5 ?_ ?_|(with_reducible intro hpath;try exact zP)|(refine hK' _ _ ?_;clear hK' K')|fail);try refine zS ?_))|(refine zE ?_;refine hK _ _ ?_;clear hK K)|(refine zN ?_;try refine zS ?_)|refine zA ?_|(refine zB ?_;intro K hK)|(refine zC ?_ ?_<;>(try refine zH ?_)<;>intro hcond<;>try exact zX)|fail)
    ·rw [A2w,hpl,Yz]; omega
    ·have hl:(A0M F (v+1)).length=rs.length+1:=by rw [hsucc]; simp
     simp only [A0p,XQ,ZX] at w2;rw [A9b,hpl,w2,<-hnew,<-hsucc,show chJ ps++[Blk.chain 1 1]=chJ (A1n F (v+1)) from by rw [hnew,w3]; rfl];have ht2:(chJ (A1n F (v+1))).take (rs.length+1)=chJ (A1n F (v+1)):=A65 (by rw [A0P,hl]; exact QQ _);refine ⟨(v+1,cap'),Weak.headF ((A0M F ((v+1,cap')).1).length+4) 43 [0,5,6,10,11] (zc @hl (zc @ht2 Qv6)) (by (repeat' (first | exact A0m _ | exact A0s _ | exact A0i _ | refine Qv5 ?_ ?_ | refine A0k ?_ ?_ | refine A0l ?_ ?_ | refine A0h ?_ ?_ | exact Qv4 | exact A2H (by rw [A0P]; omega) | exact A2o | exact hcs _ (by omega) | exact A1c | (show _<_; omega) | exact A0r (fun _=>Qv4) | (intro c hc; cases hc; done) | (intro c hc; simp only [Qw,Qv,or_false] at hc; subst hc; first | exact Qv4 | exact A2H (by rw [A0P]; omega) | exact A2o | exact hcs _ (by omega) | exact A1c | (show _<_; omega)) | (intro c hc; simp only [Qw,Qv,or_false] at hc; rcases hc with rfl | rfl<;>first | exact Qv4 | exact A2H (by rw [A0P]; omega) | exact A2o | exact hcs _ (by omega) | exact A1c | (show _<_; omega))))),?_,?_⟩
     ·exact ⟨hlt,by rw [hl]; exact hc'⟩
     ·simp only; omega
   ·obtain ⟨r,hr⟩: ∃r,rootF F 12 v=r:=⟨_,rfl⟩;have hrlt:r<v:=by omega
    have hfix:=A8o hF (u:=v) (by omega);rw [hr] at hfix;have hrr:=A5a hF (u:=r) (by omega) hfix;have hmem:r∈A0M F v:=A51.2 ⟨hrlt,hrr⟩;obtain ⟨k,hk,hkr⟩:=YJ.1 hmem;have hk':(A0M F v)[k]? =some r:=by rw [Qq hk,hkr]
    obtain ⟨e1,e2,e3⟩:=B9n hrv hk' hr;have hval:=C36 (A5b F v) hk' (.c (.int .i64 0));rw [hr] at hR hrv;have hrvI: ¬((r:Int)=v):=by omega
    have hplen:(A7X F v r).length≤v:=by
     unfold A7X;rw [XW];exact Yj (Jw _ _) (by simp)
    generalize A7X F v r=p at*;have hkI:(k:Int)<(A0M F v).length:=by omega
    have g1:=C2v (b:=4) (List.replicate (cap-(A0M F v).length) .any) e2;have g2:=C6q (b:=4) (List.replicate (cap-(A0M F v).length) .any) e2;have g3:=B8O e2;have g4:=C4A 4 k (A1n F v) (p++[(v:Int)]) (List.replicate (cap-(A0M F v).length) .any) (by omega);have g5:=B8P k (A1n F v) (p++[(v:Int)]) (n:=p.length+1) (by simp);rw [<-e3] at g4 g5;have hkc:k+1≤(A1n F v).length+(cap-(A0M F v).length):=by omega
    repeat' (first|(with_reducible refine AWp.seq_drawM B58 A7W C2u (by with_unfolding_all rfl) (by with_unfolding_all kernel_rfl) (fun K hK=>?_))|(with_reducible refine AWp.last_drawM B58 A7W C2u (by with_unfolding_all rfl) (by with_unfolding_all kernel_rfl) (fun K hK=>?_))|((first|(refine zT ?_;intro K' hK')|(refine zG ?_ ?_<;>(try refine zH ?_)<;>intro hguard<;>(try exact zX)<;>try intro K' hK'))<;>((try simp+contextual only [go_sem,hltI,hrvI,hkI,hval,g1,g2,g3,g4,g5,A2w,A9b,hpl,hkc,A0e,A2v,chunks,List.range,List.range.loop,A2N,Int.toNat_natCast,Yz]);(repeat' first|(with_reducible refine hK' _ _ ?_;clear hK' K')|((with_reducible first|refine ⟨_,_,hR,?_⟩|refine ⟨_,hR,?_⟩);try simp+contextual only [go_sem,hltI,hrvI,hkI,hval,g1,g2,g3,g4,g5,A2w,A9b,hpl,hkc,A0e,A2v,chunks,List.range,List.range.loop,A2N,Int.toNat_natCast,Yz])|(exact rfl)|(exact A6B)|(with_reducible exact A1v (by assumption))|exact zY|with_reducible refine Qv5 ?_ ?_|(with_reducible intro hpath;try exact zP)|(refine hK' _ _ ?_;clear hK' K')|fail);try refine zS ?_))|(refine zE ?_;refine hK _ _ ?_;clear hK K)|(refine zN ?_;try refine zS ?_)|refine zA ?_|(refine zB ?_;intro K hK)|(refine zC ?_ ?_<;>(try refine zH ?_)<;>intro hcond<;>try exact zX)|fail)
    have ht2:(chJ (A1n F (v+1))).take (A0M F v).length=chJ (A1n F (v+1)):=A65 (by rw [A0P,e1]; exact QQ _);refine ⟨(v+1,cap),Weak.headF ((A0M F ((v+1,cap)).1).length+4) 43 [0,5,6,10,11] (zc @e1 (zc @ht2 Qv6)) (by (repeat' (first | exact A0m _ | exact A0s _ | exact A0i _ | refine Qv5 ?_ ?_ | refine A0k ?_ ?_ | refine A0l ?_ ?_ | refine A0h ?_ ?_ | exact Qv4 | exact A2H (by rw [A0P]; omega) | exact A2o | exact hcs _ (by omega) | exact A1c | (show _<_; omega) | exact A0r (fun _=>Qv4) | (intro c hc; cases hc; done) | (intro c hc; simp only [Qw,Qv,or_false] at hc; subst hc; first | exact Qv4 | exact A2H (by rw [A0P]; omega) | exact A2o | exact hcs _ (by omega) | exact A1c | (show _<_; omega)) | (intro c hc; simp only [Qw,Qv,or_false] at hc; rcases hc with rfl | rfl<;>first | exact Qv4 | exact A2H (by rw [A0P]; omega) | exact A2o | exact hcs _ (by omega) | exact A1c | (show _<_; omega))))),?_,?_⟩
    ·exact ⟨hlt,by rw [e1]; exact hcap⟩
    ·simp only; omega
  ·have ev:v=n:=by omega
   subst ev;have hnl: ¬((v:Int)<v):=by omega
   have hpos:0<(A0M F v).length:=Ww.2 fun h=>by
    have h0:0∈A0M F v:=A51.2 ⟨by omega,by have:=A22 hF (n:=12) (v:=0) (by omega); omega⟩;rw [h] at h0; cases h0
   refine zJ (stop 12) (zc @hnl Qv6) Qv6 Qv6 Qv6 ?_;refine AWp.vecData 5 3 4 ((A1n F v).map A0p) rfl rfl hpos hcap (by rw [XW,A0P]) (by simp) ?_;rw [C31];simp only [List.set_cons_succ,List.set_cons_zero];refine AWp.weak (Weak.head2 (m:=2) (by first | omega | simp) ((fun t f=>[f,f,f,f,f,t,f,f,f,f,f,f,f,f,f,f,f,f,f,f,f,f,f,f,f,f,f,f,f,f,f,f,f,f,f,f,f,f,f,f,f,f,f]) true false) rfl rfl (by (repeat' (first | exact A0m _ | exact A0s _ | exact A0i _ | refine Qv5 ?_ ?_ | refine A0k ?_ ?_ | refine A0l ?_ ?_ | refine A0h ?_ ?_ | exact Qv4 | exact A2H (by rw [A0P]; omega) | exact A2o | exact hcs _ (by omega) | exact A1c | (show _<_; omega) | exact A0r (fun _=>Qv4) | (intro c hc; cases hc; done) | (intro c hc; simp only [Qw,Qv,or_false] at hc; subst hc; first | exact Qv4 | exact A2H (by rw [A0P]; omega) | exact A2o | exact hcs _ (by omega) | exact A1c | (show _<_; omega)) | (intro c hc; simp only [Qw,Qv,or_false] at hc; rcases hc with rfl | rfl<;>first | exact Qv4 | exact A2H (by rw [A0P]; omega) | exact A2o | exact hcs _ (by omega) | exact A1c | (show _<_; omega)))))) ?_;simp only [mask,List.take_succ_cons,List.take_zero,List.set_cons_succ,List.set_cons_zero];refine zR Qv6 Qv6 Qv6 ?_;simp [A4O,A2c,A0v,A2b,Tryz.results192]
open Go.Sp Go.RowKit
open Go.Sort (SWO)
def A1M:List Int->List Int->Int
 | [],[]=>0
 | [],_::_=> -1
 | _::_,[]=>1
 | x::a,y::b=>if A6e x y=0 then A1M a b else A6e x y
def A9w {x y:Int}:A6e x y=0↔x=y:=by unfold A6e; (repeat' split)<;>omega
def C2x {x y:Int}:A6e x y<0↔x<y:=by unfold A6e; (repeat' split)<;>omega
def B0E {a b:List Int} {i:Nat} {x y:Int} (ha:a[i]? =some x) (hb:b[i]? =some y):A1M (a.drop i) (b.drop i)=if A6e x y=0 then A1M (a.drop (i+1)) (b.drop (i+1)) else A6e x y:=by
 obtain ⟨h1,rfl⟩:=Qx.1 ha;obtain ⟨h2,rfl⟩:=Qx.1 hb;rw [Zz h1,Zz h2];rfl
def B2T {a b:List Int} {i:Nat} {x:Int} (ha:a[i]? =some x) (hb:b.length≤i):A1M (a.drop i) (b.drop i)=1:=by
 obtain ⟨h1,rfl⟩:=Qx.1 ha;rw [Zz h1,JY hb];rfl
def B97 {a b:List Int} {i:Nat} (ha:a.length=i) (hb:i≤b.length):A1M (a.drop i) (b.drop i)=if a.length<b.length then -1 else 0:=by
 rw [JY (by omega)];by_cases h:i<b.length
 ·rw [Zz h,if_pos (by omega)]; rfl
 ·rw [JY (by omega),if_neg (by omega)]; rfl
end
def ATf (L:List (Nat×Nat)):List (List Int):=(List.range 12).map fun v=>zI (atV L v)
def C4C (L:List (Nat×Nat)):(ATf L).length=12:=by simp [ATf]
def B43 (T:List Nat) (x:Nat):zI T++[(x:Int)]=zI (T++[x]):=by simp [zI]
@[simp] theorem C7n (L:List (Nat×Nat)):(chJ (ATf L)).take 12=chJ (ATf L):=A65 (by rw [C4C]; exact QQ _)
def B98 (es:List E):(A0f es).all A1j=true:=by
 rw [Zv]; intro r hr;obtain ⟨x,_,rfl⟩:=QJ.1 hr; rfl
def B99 (l:List Int):(A0p l).all A1j=true:=by
 rw [Zv]; intro r hr;obtain ⟨x,_,rfl⟩:=QJ.1 hr; rfl
def C2y {l:List (List Int)} {r:List Tree} (h:r∈A0u l):B1t r:=by
 obtain ⟨x,_,rfl⟩:=QJ.1 h;intro t ht;rw [Zq] at ht;subst ht;exact ⟨_,rfl,B99 x⟩
def C2z {l:List Blk} (h: ∀b,b∈l->B82 b) (id:Nat) (blk:Blk) (hb:l[id]? =some blk):B82 blk:=h blk (Qy hb)
def B59: ∀{a b:List Int},A1M a b=0↔a=b
 | [],[]=>by simp [A1M]
 | [],_::_=>by simp [A1M]
 | _::_,[]=>by simp [A1M]
 | x::a,y::b=>by
  rw [A1M];have h:=A9w (x:=x) (y:=y);split
  ·rename_i h0;rw [B59,h.1 h0]; simp
  ·rename_i h0;constructor
   ·intro e; exact absurd e h0
   ·intro e; injection e with e1 _; exact absurd (h.2 e1) h0
def A9x (a b:List Int) (hl:a.length<2^40) (hl2:b.length<2^40):ACall Tryz.prog 30 [A0q a,A0q b] (A0n (A1M a b)):=by
 refine ACall.of_body Tryz.func30 rfl (by kernel_rfl) ?_;simp only [entry,Tryz.ntmps30,A0q];refine zU ?_;refine zR (zc @A0e Qv6) Qv6 Qv6 ?_;refine AWp.loopS (α:=Nat) 36 (fun i=>[(0,.c (.slice (A0p a) .none)),(1,.c (.slice (A0p b) .none)),(9,.c (.slice (A0p a) .none)),(10,.c (.int .i64 (a.length:Int))),(11,.c (.int .i64 (i:Int)))]) (fun i=>[]) (fun i=>i≤a.length∧i≤b.length∧A1M (a.drop i) (b.drop i)=A1M a b) (fun i=>a.length-i) (0) (hk:=Weak.headL 0 36 [0,1,9,10,11] zW) (h0:=?_) (round:=fun i hI=>?_)
 ·exact ⟨Xw _,Xw _,rfl⟩
 ·obtain ⟨hi,hi2,he⟩:=hI;by_cases hlt:i<a.length
  ·have hltI:(i:Int)<(a.length:Int):=by omega
   have hi0:0≤(i:Int):=by omega
   have ea:=Qq hlt;have ra:=A0y ea;generalize a[i]=x at*;by_cases hb:i<b.length
   ·have eb:=Qq hb;have rb:=A0y eb;generalize b[i]=y at*;have hbI: ¬(b.length:Int)≤(i:Int):=by omega
    have hbI2:(i:Int)<(b.length:Int):=by omega
    have hc:=B0p x y;have hd:=B0E ea eb;by_cases h0:A6e x y=0
    ·rw [if_pos h0] at hd;rw [h0] at hc;refine zR (zc @hltI (zc @hi0 (zc @hbI (zc @hbI2 (zc @ra (zc @rb (zc @A0e Qv6))))))) (zc hc Qv6) Qv6 ?_;refine ⟨i+1,Weak.headN 0 36 [0,1,9,10,11] zW,?_,?_⟩
     ·exact ⟨hlt,hb,by rw [<-hd]; exact he⟩
     ·omega
    ·rw [if_neg h0,he] at hd;rw [hd];refine zR (zc @hltI (zc @hi0 (zc @hbI (zc @hbI2 (zc @ra (zc @rb (zc @h0 (zc @A0e Qv6)))))))) (zc hc Qv6) Qv6 ?_;simp [A00,A0z,Blk.cells,ty,Tryz.results30,A0v,A0w,toT,A0d,A0b,A0c,A0a,A0n]
   ·have hbI:(b.length:Int)≤(i:Int):=by omega
    have hd:=B2T ea (by omega:b.length≤i);rw [he] at hd;rw [hd];refine zR (zc @hltI (zc @hi0 (zc @hbI (zc @ra (zc @A0e Qv6))))) Qv6 Qv6 ?_;simp [A00,A0z,Blk.cells,ty,Tryz.results30,A0v,A0w,toT,A0d,A0b,A0c,A0a,A0n]
  ·have hnl: ¬(i:Int)<(a.length:Int):=by omega
   have ei:i=a.length:=by omega
   subst ei;have hd:=B97 (a:=a) (b:=b) rfl hi2;rw [he] at hd;rw [hd];by_cases hab:a.length<b.length
   ·have habI:(a.length:Int)<(b.length:Int):=by omega
    rw [if_pos hab];refine zR (zc @hnl (zc @habI (zc @A0e Qv6))) Qv6 Qv6 ?_;simp [A00,A0z,Blk.cells,ty,Tryz.results30,A0v,A0w,toT,A0d,A0b,A0c,A0a,A0n]
   ·have habI: ¬(a.length:Int)<(b.length:Int):=by omega
    rw [if_neg hab];refine zR (zc @hnl (zc @habI (zc @A0e Qv6))) Qv6 Qv6 ?_;simp [A00,A0z,Blk.cells,ty,Tryz.results30,A0v,A0w,toT,A0d,A0b,A0c,A0a,A0n]
def A9y (l m:List Int) (hl:l.length<2^40) (hm:m.length<2^40):ACall Tryz.prog 51 [A0q l,A0q m] (A0x (decide (l=m))):=by
 refine ACall.of_body Tryz.func51 rfl (by kernel_rfl) ?_;simp only [entry,Tryz.ntmps51,A0q];refine zU ?_;refine zM Qv6 (zc @A0e Qv6) Qv6 Qv6 Qv6 (zc (ed fun hp hpc=>?_) (ed fun hp hpc=>?_))
 ·have e: ¬l=m:=fun e=>by subst e; omega
  simp [A00,A0z,Blk.cells,ty,Tryz.results51,A0v,A0w,toT,A0d,A0b,A0c,A0a,A0x,e]
 ·have hlm:l.length=m.length:=by omega
  refine AWp.loopS (α:=Nat) 26 (fun k=>[(0,.c (.slice (A0p l) .none)),(1,.c (.slice (A0p m) .none)),(12,.c (.int .i64 l.length)),(13,.c (.int .i64 (k:Int)))]) (fun k=>[]) (fun k=>k≤l.length∧ ∀j,j<k->l[j]? =m[j]?) (fun k=>l.length-k) (0) (hk:=Weak.headL 0 26 [0,1,12,13] zW) (h0:=?_) (round:=fun k hI=>?_)
  ·exact ⟨Xw _,fun j hj=>by omega⟩
  ·obtain ⟨hk,hx⟩:=hI;by_cases hlt:k<l.length
   ·have hlt2:k<m.length:=by omega
    have e1:=A0y (Qq hlt);have e2:=A0y (Qq hlt2);refine zM Qv6 (zc @e1 (zc @e2 (zc @ZJ Qv6))) Qv6 Qv6 Qv6 (zc (ed fun hp hpc=>?_) (ed fun hp hpc=>?_))
    ·have e: ¬l=m:=fun e=>by subst e; omega
     simp [A00,A0z,Blk.cells,ty,Tryz.results51,A0v,A0w,toT,A0d,A0b,A0c,A0a,A0x,e]
    ·refine ⟨k+1,Weak.headN 0 26 [0,1,12,13] zW,?_,?_⟩
     ·refine ⟨hlt,fun j hj=> ?_⟩;by_cases hjk:j=k
      ·subst hjk; rw [Qq hlt,Qq hlt2]; congr 1
      ·exact hx j (by omega)
     ·omega
   ·have e:l=m:=Zx fun j=>by
     by_cases hj:j<l.length
     ·exact hx j (by omega)
     ·rw [Xx (by omega),Xx (by omega)]
    refine zR (zc @ZJ Qv6) Qv6 Qv6 ?_;simp [A00,A0z,Blk.cells,ty,Tryz.results51,A0v,A0w,toT,A0d,A0b,A0c,A0a,A0x,e]
def B7h (a b:List Int) (hab:a.length=b.length) (hl:a.length<2^40):ACall Tryz.prog 58 [A0q a,A0q b] (A0n (A1M a b)):=by
 refine ACall.of_body Tryz.func58 rfl (by kernel_rfl) ?_;simp only [entry,Tryz.ntmps58,A0q];refine zU ?_;refine zR Qv6 Qv6 Qv6 ?_;refine AWp.loopS (α:=Nat) 30 (fun i=>[(0,.c (.slice (A0p a) .none)),(1,.c (.slice (A0p b) .none)),(5,.c (.int .i64 (i:Int)))]) (fun i=>[]) (fun i=>i≤a.length∧A1M (a.drop i) (b.drop i)=A1M a b) (fun i=>a.length-i) (0) (hk:=Weak.headL 0 30 [0,1,5] zW) (h0:=?_) (round:=fun i hI=>?_)
 ·exact ⟨Xw _,rfl⟩
 ·obtain ⟨hi,he⟩:=hI;by_cases hlt:i<a.length
  ·have hltI:(i:Int)<(a.length:Int):=by omega
   have hltJ:(i:Int)<(b.length:Int):=by omega
   have ea:=Qq hlt;have eb:=Qq (show i<b.length by omega);have ra:=A0y ea;have rb:=A0y eb;have hd:=B0E ea eb;rw [he] at hd;generalize a[i]=x at*;generalize b[i]=y at*;by_cases h1:x<y
   ·have hc:A6e x y= -1:=by unfold A6e; rw [if_pos h1]
    rw [hc,if_neg (by decide)] at hd;rw [hd];refine zR (zc @hltI (zc @hltJ (zc @ra (zc @rb (zc @h1 (zc @A0e Qv6)))))) Qv6 Qv6 ?_;simp [A00,A0z,Blk.cells,ty,Tryz.results58,A0v,A0w,toT,A0d,A0b,A0c,A0a,A0n]
   ·by_cases h2:y<x
    ·have hc:A6e x y=1:=by unfold A6e; rw [if_neg h1]; (repeat' split)<;>omega
     rw [hc,if_neg (by decide)] at hd;rw [hd];refine zR (zc @hltI (zc @hltJ (zc @ra (zc @rb (zc @h1 (zc @h2 (zc @A0e Qv6))))))) Qv6 Qv6 ?_;simp [A00,A0z,Blk.cells,ty,Tryz.results58,A0v,A0w,toT,A0d,A0b,A0c,A0a,A0n]
    ·have hc:A6e x y=0:=A9w.2 (by omega);rw [if_pos hc] at hd;refine zR (zc @hltI (zc @hltJ (zc @ra (zc @rb (zc @h1 (zc @h2 (zc @A0e Qv6))))))) Qv6 Qv6 ?_;refine ⟨i+1,Weak.headN 0 30 [0,1,5] zW,?_,?_⟩
     ·exact ⟨hlt,hd.symm⟩
     ·omega
  ·have ei:i=a.length:=by omega
   have hnl: ¬(i:Int)<(a.length:Int):=by omega
   rw [ei,Qq2,JY (by omega)] at he;rw [<-he];refine zR (zc @hnl (zc @A0e Qv6)) Qv6 Qv6 ?_;simp [A00,A0z,Blk.cells,ty,Tryz.results58,A0v,A0w,toT,A0d,A0b,A0c,A0a,A0n,A1M]
def B9A (a b:List Int) (hl:a.length<2^40) (hl2:b.length<2^40):ACall Tryz.prog 17 [A0q a,A0q b] (A0x (decide (a=b))):=by
 by_cases hab:a.length=b.length
 ·have hO:=B7h a b hab hl;have habI:(a.length:Int)=(b.length:Int):=by omega
  have e:decide (A1M a b=0)=decide (a=b):=by rw [decide_eq_decide]; exact B59
  rw [<-e];generalize A1M a b=c at*;refine ACall.of_body Tryz.func17 rfl (by kernel_rfl) ?_;simp only [entry,Tryz.ntmps17,A0q];refine zU ?_;refine zR (zc @A0e (zc @habI Qv6)) (zc hO Qv6) Qv6 ?_;simp [A00,A0z,Blk.cells,ty,Tryz.results17,A0v,A0w,toT,A0d,A0b,A0c,A0a,A0x]
 ·have habI: ¬(a.length:Int)=(b.length:Int):=by omega
  rw [decide_eq_false (fun e=>hab (by rw [e]))];refine ACall.of_body Tryz.func17 rfl (by kernel_rfl) ?_;simp only [entry,Tryz.ntmps17,A0q];refine zU ?_;refine zR (zc @A0e (zc @habI Qv6)) Qv6 Qv6 ?_;simp [A00,A0z,Blk.cells,ty,Tryz.results17,A0v,A0w,toT,A0d,A0b,A0c,A0a,A0x]
def A7L (a b:List (List Int)) (ha:a.length<2^40) (hb:b.length<2^40) (hal: ∀l,l∈a->l.length<2^40) (hbl: ∀l,l∈b->l.length<2^40):ACall Tryz.prog 31 [A0S a,A0S b] (A0x (decide (a=b))):=by
 by_cases hab:a.length=b.length
 case neg=>
  have habI: ¬(a.length:Int)=(b.length:Int):=by omega
  rw [decide_eq_false (fun e=>hab (by rw [e]))];refine ACall.of_body Tryz.func31 rfl (by kernel_rfl) ?_;simp only [entry,Tryz.ntmps31,A0S];refine zU ?_;refine zR (zc @A0o (zc @habI Qv6)) Qv6 Qv6 ?_;simp [A00,A0z,Blk.cells,ty,Tryz.results31,A0v,A0w,toT,A0d,A0b,A0c,A0a,A0x]
 have habI:(a.length:Int)=(b.length:Int):=by omega
 refine ACall.of_body Tryz.func31 rfl (by kernel_rfl) ?_;simp only [entry,Tryz.ntmps31,A0S];refine zU ?_;refine zR (zc @A0o (zc @habI Qv6)) Qv6 Qv6 ?_;refine AWp.loopS (α:=Nat) 27 (fun i=>[(0,.c (.slice (A0u a) .none)),(1,.c (.slice (A0u b) .none)),(5,.c (.int .i64 (i:Int)))]) (fun i=>[]) (fun i=>i≤a.length∧a.take i=b.take i) (fun i=>a.length-i) (0) (hk:=Weak.headL 0 27 [0,1,5] zW) (h0:=?_) (round:=fun i hI=>?_)
 ·exact ⟨Xw _,rfl⟩
 ·obtain ⟨hi,hI2⟩:=hI;by_cases hlt:i<a.length
  ·have hltI:(i:Int)<(a.length:Int):=by omega
   have hib:i<b.length:=by omega
   have hltJ:(i:Int)<(b.length:Int):=by omega
   have e0:=Qq hlt;have f0:=Qq hib;have e1:=A0U e0;have f1:=A0U f0;have hS:=B9A a[i] b[i] (hal _ (Xk hlt)) (hbl _ (Xk hib));have t1:a.take (i+1)=a.take i++[a[i]]:=XZ hlt;have t2:b.take (i+1)=b.take i++[b[i]]:=XZ hib;generalize a[i]=x at*;generalize b[i]=y at*;by_cases hxy:x=y
   ·rw [decide_eq_true hxy] at hS;refine zR (zc @hltI (zc @hltJ (zc @A0o (zc @e1 (zc @f1 Qv6))))) (zc hS Qv6) Qv6 ?_;refine ⟨i+1,Weak.headN 0 27 [0,1,5] zW,?_,?_⟩
    ·exact ⟨hlt,by rw [t1,t2,hI2,hxy]⟩
    ·omega
   ·rw [decide_eq_false hxy] at hS;rw [decide_eq_false (fun e=>hxy (by subst e; rw [e0] at f0; exact JX f0))];refine zR (zc @hltI (zc @hltJ (zc @A0o (zc @e1 (zc @f1 Qv6))))) (zc hS Qv6) Qv6 ?_;simp [A00,A0z,Blk.cells,ty,Tryz.results31,A0v,A0w,toT,A0d,A0b,A0c,A0a,A0x]
  ·have ei:i=a.length:=by omega
   have heq:a=b:=by
    rw [ZZ (by omega),ZZ (by omega)] at hI2;exact hI2
   rw [decide_eq_true heq];have hnl: ¬((i:Int)<(a.length:Int)):=by omega
   refine zR (zc @hnl (zc @A0o Qv6)) Qv6 Qv6 ?_;simp [A00,A0z,Blk.cells,ty,Tryz.results31,A0v,A0w,toT,A0d,A0b,A0c,A0a,A0x]
end Go.Proofs.YtdbdfkohpjefjaaGreat
