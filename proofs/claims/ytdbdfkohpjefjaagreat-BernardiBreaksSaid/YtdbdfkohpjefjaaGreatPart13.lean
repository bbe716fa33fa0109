/- A part of the proof. -/
import Derived.Test.YtdbdfkohpjefjaaGreatPart10
import Derived.Test.YtdbdfkohpjefjaaGreatPart11
import Derived.Test.YtdbdfkohpjefjaaGreatPart12
set_option linter.all false
set_option maxHeartbeats 4000000
set_option maxRecDepth 100000
namespace Go.Proofs.YtdbdfkohpjefjaaGreat
open Go.Sp
def B5T:B2k Tryz.prog 134=some (3,3):=by simp only [ty]
def C2R:A01 Tryz.prog 3=some (.int .i64 0):=by simp only [ty]
def A0F (F:List Nat) (v:Nat):(A1f F v).length=(A0B F v).length:=by simp [A1f]
def A2I {m b:Nat} {ls:List (List Int)} {n:Nat} (h:b+ls.length≤m):blkIn m (.box (chI b ls++List.replicate n .any)):=C4C (by simpa using h)
def C5f (b i:Nat) (ls:List (List Int)) (l:List Int) (R:List ACell) (h:i<ls.length):(chI b ls++R).set i (.slice (A0l l) (.chain (i+b)))=chI b (ls.set i l)++R:=by
 rw [Qx6 _ _ (by rw [A2y]; exact h),B9k]
def C6I {b i:Nat} {ls:List (List Int)} {l:List Int} (R:List ACell) (h:ls[i]? =some l):(chI b ls++R).drop i= .slice (A0l l) (.chain (i+b))::(chI b ls++R).drop (i+1):=by
 have hl:=(Qx.1 h).1;rw [List.drop_append_of_le_length (by rw [A2y]; omega),List.drop_append_of_le_length (by rw [A2y]; omega),B5K h]; rfl
def C5g (b:Nat) (ls:List (List Int)) (l:List Int) (R:List ACell):(chI b ls++[ACell.nils]++R).set ls.length (.slice (A0l l) (.chain (ls.length+b)))=chI b (ls++[l])++R:=by
 rw [Zv,Vq _ _ (by rw [A2y]; exact Qk _),A2y,Jv];unfold chI;rw [Jz,XY,ZQ,B5A];simp
def B3g (b:Nat) (ls:List (List Int)) (R:List ACell):(chI b ls++[ACell.nils]++R).drop ls.length= .nils::R:=by
 rw [Zv,List.drop_append,A2y,Jv,VY (by rw [A2y]; exact Qk _)]; rfl
def B77 (b:Nat) (ls:List (List Int)) (R:List ACell):(chI b ls++[ACell.nils]++R)[ls.length]? =some .nils:=by
 have:=congrArg (·[0]?) (B3g b ls R);simpa using this
def C2S {b i:Nat} {ls:List (List Int)} {l:List Int} (R:List ACell) (h:ls[i]? =some l):(chI b ls++R)[i]? =some (.slice (A0l l) (.chain (i+b))):=by
 have hl:=(Qx.1 h).1;rw [Qw (by rw [A2y]; exact hl)];exact B9j h
def C2T (ls:List (List Int)) (l:List Int):chJ (ls++[l])=chJ ls++[.chain l.length 1]:=by
 unfold chJ; rw [Jz,XY,ZQ,C2l,A0e]
def C6J {j b:Nat} {ls:List (List Int)}: ∀c,c∈chI b ls->noJ j c=true:=C3R
@[simp] theorem C6K (F:List Nat) (v:Nat):(chJ (A1f F v)).take (A0B F v).length=chJ (A1f F v):=A66 (by rw [A0F]; exact Qk _)
def B9S {cs0:List ACell} {F:List Nat} (h0: ∀c,c∈cs0->noJ 3 c=true) {es:List (MKey×MV)} {b:Blk} {ps:List (List Int)}: ∀(i:Nat) blk,(Blk.box cs0:: .box (fC F):: .map es::b::chJ ps)[i]? =some blk->i≠3->noB 3 blk
 | 0,blk,h,_=>by simp at h; subst h; exact h0
 | 1,blk,h,_=>by
  simp at h; subst h;intro c hc;obtain ⟨n,_,rfl⟩:=QY.1 hc;rfl
 | 2,blk,h,_=>by simp at h; subst h; trivial
 | 3,blk,h,hn=>absurd rfl hn
 | i+4,blk,h,_=>by
  have hm:=Qv (l:=chJ ps) (i:=i) (a:=blk) (by simpa using h);obtain ⟨r,_,rfl⟩:=QY.1 hm;trivial
def B9T (F:List Nat) (hF:FOk F) (n:Nat) (h1:1≤n) (hn:n≤12) (cs0:List ACell) (hcs: ∀m,2≤m->blkIn m (.box cs0)) (hno: ∀c,c∈cs0->noJ 3 c=true):
  ACallH Tryz.prog 192 [.box cs0,.box (fC F)] [.c (.ptr 1 0),.c (.int .i64 (n:Int))] [.box cs0,.box (fC F)] (.c (.slice (A0n (A1f F n)) .none)):=by
 have hroot:=fun (v:Nat) (hv:v<12) (H:List Blk) (hH:H[1]? =some (.box (fC F)))=>A7x F hF v hv (id:=1) hH;refine ACallH.of_body Tryz.func192 rfl (by kernel_rfl) ?_;simp only [entry,Tryz.ntmps192,List.length_cons,List.length_nil,Nat.reduceAdd,Nat.reduceSub,List.replicate_succ,List.replicate_zero,List.cons_append,List.nil_append];refine zR Qv5 Qv5 Qv5 ?_;refine AWp.weak (Weak.asVec 5 1 rfl rfl (by simp)) ?_;simp only [List.length_cons,List.length_nil,List.set_cons_succ,List.set_cons_zero,List.cons_append,List.nil_append,XX];refine AWp.loopS (α:=(Nat×Nat)) 43 (fun s=>[(0,.c (.ptr 1 0)),(5,.c (.vec 3 (A0B F s.1).length s.2)),(6,.c (.map 2)),(10,.c (.int .i64 (n:Int))),(11,.c (.int .i64 (s.1:Int)))]) (fun s=>.box cs0:: .box (fC F):: .map (mR 0 (A0B F s.1)):: .box (chI 4 (A1f F s.1)++List.replicate (s.2-(A0B F s.1).length) .any)::chJ (A1f F s.1)) (fun s=>s.1≤n∧(A0B F s.1).length≤s.2) (fun s=>n-s.1) ((0,0)) (hk:=Weak.headL ((A0B F ((0,0)).1).length+4) 43 [0,5,6,10,11] (by (repeat' (first | exact A1K _ | exact A15 _ | exact A1p _ | refine Qv4 ?_ ?_ | refine A1y ?_ ?_ | refine A04 ?_ ?_ | refine A1e ?_ ?_ | exact Qv3 | exact A2I (by rw [A0F]; omega) | exact A2m | exact hcs _ (by omega) | exact A1s | (show _<_; omega) | exact A1g (fun _=>Qv3) | (intro c hc; cases hc; done) | (intro c hc; simp only [QV,XJ,or_false] at hc; subst hc; first | exact Qv3 | exact A2I (by rw [A0F]; omega) | exact A2m | exact hcs _ (by omega) | exact A1s | (show _<_; omega)) | (intro c hc; simp only [QV,XJ,or_false] at hc; rcases hc with rfl | rfl<;>first | exact Qv3 | exact A2I (by rw [A0F]; omega) | exact A2m | exact hcs _ (by omega) | exact A1s | (show _<_; omega)))))) (h0:=?_) (round:=fun s hI=>?_)
 ·exact ⟨Xj _,Qk _⟩
 ·obtain ⟨v,cap⟩:=s;obtain ⟨hv,hcap⟩:=hI;simp only at hv hcap ⊢;by_cases hlt:v<n
  ·have hltI:(v:Int)<n:=by omega
   have hR:=hroot v (by omega) _ (show (Blk.box cs0:: .box (fC F):: .map (mR 0 (A0B F v)):: .box (chI 4 (A1f F v)++List.replicate (cap-(A0B F v).length) .any)::chJ (A1f F v))[1]? =some (.box (fC F)) from rfl);have hle:=A24 hF (n:=12) (v:=v) (by omega);have hkl:=B7w F v;have hpl:=A0F F v;by_cases hrv:rootF F 12 v=v
   ·rw [hrv] at hR;have hnew:=B98 hF (by omega) hrv;have hsucc:=A4q F v;rw [if_pos hrv] at hsucc;have hnm: ¬v∈A0B F v:=fun h=>by have:=(A55.1 h).1; omega
    have hput:=C6E hnm;have hnd:=A5c F (v+1);rw [hsucc] at hnd;have hval:=C3Z (k:=(A0B F v).length) (r:=v) hnd (by simp) (.c (.int .i64 0));generalize A0B F v=rs at*;generalize A1f F v=ps at*;refine zM (zc Qv5 (prt 9 1)) (zc @hltI (zc @hput Qv5)) Qv5 (zc hR (zc (zc A8c A6B) Qv5)) Qv5 (ed fun hp hpc=>?_);simp only [Zy,Yq];refine AReg.nilRow (e:=28) (z:= .slice none 0 0) rfl rfl rfl (by simp only [ty]) (by simp only [ty]) (by simp only [ty]) rfl ?_;refine AReg.grow (e:=28) (e2:=28) (by':=24) (z:= .slice none 0 0) (j:=3) (tr:= .raw (.slice none 0 0)) (tok:= .exact) (used:=chI 4 ps) rfl rfl rfl (by simp only [ty]) (by simp only [ty]) (by simp only [ty]) (by simp only [ty]) rfl (by simp only [ty]) rfl rfl (by rw [A2y,hpl]) hcap (by simp) rfl (by omega) (by omega) (B9S hno) C6J (fun cap' hc'=> ?_);refine AReg.rest (fun K hK=> ?_);simp only [XY,ZQ,fgt,C2i,noJ,noK,A1a,List.set_cons_succ,List.set_cons_zero,cellOf,bne_self_eq_false,show ((1:Nat) != 3)=true from rfl,show ((2:Nat) != 3)=true from rfl,if_true,Yk,if_false];have w1:=B3g 4 ps (List.replicate (cap'-(rs.length+1)) .any);have w2:=C5g 4 ps [(v:Int)] (List.replicate (cap'-(rs.length+1)) .any);have w4:=B77 4 ps (List.replicate (cap'-(rs.length+1)) .any);rw [hpl] at w1 w2 w4;have w3:=C2T ps [(v:Int)]
    repeat' (first|(with_reducible refine AWp.seq_drawM B5T A8c C2R (by with_unfolding_all rfl) (by with_unfolding_all kernel_rfl) (fun K hK=>?_))|(with_reducible refine AWp.last_drawM B5T A8c C2R (by with_unfolding_all rfl) (by with_unfolding_all kernel_rfl) (fun K hK=>?_))|((first|(refine zT ?_;intro K' hK')|(refine zG ?_ ?_<;>(try refine zH ?_)<;>intro hguard<;>(try exact zX)<;>try intro K' hK'))<;>((try simp+contextual only [go_sem,hval,w1,w2,w4,chunks,List.range,List.range.loop,A2N,Int.toNat_natCast]);(repeat' first|(with_reducible refine hK' _ _ ?_;clear hK' K')|(exact rfl)|(exact A6B)|(with_reducible exact A1c (by assumption))|exact zY|with_reducible refine Qv4 ?_ ?_|(with_reducible intro hpath;try exact zP)|(refine hK' _ _ ?_;clear hK' K')|fail);try refine zS ?_))|(refine zE ?_;refine hK _ _ ?_;clear hK K)|(refine zN ?_;try refine zS ?_)|refine zA ?_|(refine zB ?_;intro K hK)|(refine zC ?_ ?_<;>(try refine zH ?_)<;>intro hcond<;>try exact zX)|fail)
    ·rw [A2y,hpl,Yj]; omega
    ·have hl:(A0B F (v+1)).length=rs.length+1:=by rw [hsucc]; simp
     simp only [A0l,XY,ZQ] at w2;rw [A9k,hpl,w2,<-hnew,<-hsucc,show chJ ps++[Blk.chain 1 1]=chJ (A1f F (v+1)) from by rw [hnew,w3]; rfl];have ht2:(chJ (A1f F (v+1))).take (rs.length+1)=chJ (A1f F (v+1)):=A66 (by rw [A0F,hl]; exact Qk _);refine ⟨(v+1,cap'),Weak.headF ((A0B F ((v+1,cap')).1).length+4) 43 [0,5,6,10,11] (zc @hl (zc @ht2 Qv5)) (by (repeat' (first | exact A1K _ | exact A15 _ | exact A1p _ | refine Qv4 ?_ ?_ | refine A1y ?_ ?_ | refine A04 ?_ ?_ | refine A1e ?_ ?_ | exact Qv3 | exact A2I (by rw [A0F]; omega) | exact A2m | exact hcs _ (by omega) | exact A1s | (show _<_; omega) | exact A1g (fun _=>Qv3) | (intro c hc; cases hc; done) | (intro c hc; simp only [QV,XJ,or_false] at hc; subst hc; first | exact Qv3 | exact A2I (by rw [A0F]; omega) | exact A2m | exact hcs _ (by omega) | exact A1s | (show _<_; omega)) | (intro c hc; simp only [QV,XJ,or_false] at hc; rcases hc with rfl | rfl<;>first | exact Qv3 | exact A2I (by rw [A0F]; omega) | exact A2m | exact hcs _ (by omega) | exact A1s | (show _<_; omega))))),?_,?_⟩
     ·exact ⟨hlt,by rw [hl]; exact hc'⟩
     ·simp only; omega
   ·obtain ⟨r,hr⟩: ∃r,rootF F 12 v=r:=⟨_,rfl⟩;have hrlt:r<v:=by omega
    have hfix:=A8s hF (u:=v) (by omega);rw [hr] at hfix;have hrr:=A5b hF (u:=r) (by omega) hfix;have hmem:r∈A0B F v:=A55.2 ⟨hrlt,hrr⟩;obtain ⟨k,hk,hkr⟩:=Jk.1 hmem;have hk':(A0B F v)[k]? =some r:=by rw [Qq hk,hkr]
    obtain ⟨e1,e2,e3⟩:=B99 hrv hk' hr;have hval:=C3Z (A5c F v) hk' (.c (.int .i64 0));rw [hr] at hR hrv;have hrvI: ¬((r:Int)=v):=by omega
    have hplen:(A8d F v r).length≤v:=by
     unfold A8d;rw [XW];exact Yw (WW _ _) (by simp)
    generalize A8d F v r=p at*;have hkI:(k:Int)<(A0B F v).length:=by omega
    have g1:=C2S (b:=4) (List.replicate (cap-(A0B F v).length) .any) e2;have g2:=C6I (b:=4) (List.replicate (cap-(A0B F v).length) .any) e2;have g3:=B9l e2;have g4:=C5f 4 k (A1f F v) (p++[(v:Int)]) (List.replicate (cap-(A0B F v).length) .any) (by omega);have g5:=B9m k (A1f F v) (p++[(v:Int)]) (n:=p.length+1) (by simp);rw [<-e3] at g4 g5;have hkc:k+1≤(A1f F v).length+(cap-(A0B F v).length):=by omega
    repeat' (first|(with_reducible refine AWp.seq_drawM B5T A8c C2R (by with_unfolding_all rfl) (by with_unfolding_all kernel_rfl) (fun K hK=>?_))|(with_reducible refine AWp.last_drawM B5T A8c C2R (by with_unfolding_all rfl) (by with_unfolding_all kernel_rfl) (fun K hK=>?_))|((first|(refine zT ?_;intro K' hK')|(refine zG ?_ ?_<;>(try refine zH ?_)<;>intro hguard<;>(try exact zX)<;>try intro K' hK'))<;>((try simp+contextual only [go_sem,hltI,hrvI,hkI,hval,g1,g2,g3,g4,g5,A2y,A9k,hpl,hkc,A0e,A2w,chunks,List.range,List.range.loop,A2N,Int.toNat_natCast,Yj]);(repeat' first|(with_reducible refine hK' _ _ ?_;clear hK' K')|((with_reducible first|refine ⟨_,_,hR,?_⟩|refine ⟨_,hR,?_⟩);try simp+contextual only [go_sem,hltI,hrvI,hkI,hval,g1,g2,g3,g4,g5,A2y,A9k,hpl,hkc,A0e,A2w,chunks,List.range,List.range.loop,A2N,Int.toNat_natCast,Yj])|(exact rfl)|(exact A6B)|(with_reducible exact A1c (by assumption))|exact zY|with_reducible refine Qv4 ?_ ?_|(with_reducible intro hpath;try exact zP)|(refine hK' _ _ ?_;clear hK' K')|fail);try refine zS ?_))|(refine zE ?_;refine hK _ _ ?_;clear hK K)|(refine zN ?_;try refine zS ?_)|refine zA ?_|(refine zB ?_;intro K hK)|(refine zC ?_ ?_<;>(try refine zH ?_)<;>intro hcond<;>try exact zX)|fail)
    have ht2:(chJ (A1f F (v+1))).take (A0B F v).length=chJ (A1f F (v+1)):=A66 (by rw [A0F,e1]; exact Qk _);refine ⟨(v+1,cap),Weak.headF ((A0B F ((v+1,cap)).1).length+4) 43 [0,5,6,10,11] (zc @e1 (zc @ht2 Qv5)) (by (repeat' (first | exact A1K _ | exact A15 _ | exact A1p _ | refine Qv4 ?_ ?_ | refine A1y ?_ ?_ | refine A04 ?_ ?_ | refine A1e ?_ ?_ | exact Qv3 | exact A2I (by rw [A0F]; omega) | exact A2m | exact hcs _ (by omega) | exact A1s | (show _<_; omega) | exact A1g (fun _=>Qv3) | (intro c hc; cases hc; done) | (intro c hc; simp only [QV,XJ,or_false] at hc; subst hc; first | exact Qv3 | exact A2I (by rw [A0F]; omega) | exact A2m | exact hcs _ (by omega) | exact A1s | (show _<_; omega)) | (intro c hc; simp only [QV,XJ,or_false] at hc; rcases hc with rfl | rfl<;>first | exact Qv3 | exact A2I (by rw [A0F]; omega) | exact A2m | exact hcs _ (by omega) | exact A1s | (show _<_; omega))))),?_,?_⟩
    ·exact ⟨hlt,by rw [e1]; exact hcap⟩
    ·simp only; omega
  ·have ev:v=n:=by omega
   subst ev;have hnl: ¬((v:Int)<v):=by omega
   have hpos:0<(A0B F v).length:=Wy.2 fun h=>by
    have h0:0∈A0B F v:=A55.2 ⟨by omega,by have:=A24 hF (n:=12) (v:=0) (by omega); omega⟩;rw [h] at h0; cases h0
   refine zJ (stop 12) (zc @hnl Qv5) Qv5 Qv5 Qv5 ?_;refine AWp.vecData 5 3 4 ((A1f F v).map A0l) rfl rfl hpos hcap (by rw [XW,A0F]) (by simp) ?_;rw [C3V];simp only [List.set_cons_succ,List.set_cons_zero];refine AWp.weak (Weak.head2 (m:=2) (by first | omega | simp) ((fun t f=>[f,f,f,f,f,t,f,f,f,f,f,f,f,f,f,f,f,f,f,f,f,f,f,f,f,f,f,f,f,f,f,f,f,f,f,f,f,f,f,f,f,f,f]) true false) rfl rfl (by (repeat' (first | exact A1K _ | exact A15 _ | exact A1p _ | refine Qv4 ?_ ?_ | refine A1y ?_ ?_ | refine A04 ?_ ?_ | refine A1e ?_ ?_ | exact Qv3 | exact A2I (by rw [A0F]; omega) | exact A2m | exact hcs _ (by omega) | exact A1s | (show _<_; omega) | exact A1g (fun _=>Qv3) | (intro c hc; cases hc; done) | (intro c hc; simp only [QV,XJ,or_false] at hc; subst hc; first | exact Qv3 | exact A2I (by rw [A0F]; omega) | exact A2m | exact hcs _ (by omega) | exact A1s | (show _<_; omega)) | (intro c hc; simp only [QV,XJ,or_false] at hc; rcases hc with rfl | rfl<;>first | exact Qv3 | exact A2I (by rw [A0F]; omega) | exact A2m | exact hcs _ (by omega) | exact A1s | (show _<_; omega)))))) ?_;simp only [mask,List.take_succ_cons,List.take_zero,List.set_cons_succ,List.set_cons_zero];refine zR Qv5 Qv5 Qv5 ?_;simp [A4Q,A2f,A0o,A2e,Tryz.results192]
def B3h {g:G} (hc:checkG g=0) (p:Int×Int):p∈A2a g.es↔p∈endsL g.es:=by
 constructor
 ·intro h;obtain ⟨e,he,rfl⟩:=QY.1 h;have:=(A0h.1 hc).2.1 e he;unfold okE at this;exact Jy.2 ⟨e,he,Wq.2 ⟨by omega,rfl⟩⟩
 ·intro h;obtain ⟨e,he,rfl⟩:=A3W h;exact QY.2 ⟨e,he,rfl⟩
def B4H {F:List Nat} (hF:FOk F): ∀n,n≤12->rootsN F n=(A0B F n).length:=by
 intro n
 induction n with
 | zero=>intro _; rfl
 | succ n ih=>
  intro hn;rw [A4q];simp only [rootsN,ih (by omega)];by_cases h:rootF F 12 n=n
  ·rw [if_pos h,if_pos ((B1E hF (by omega)).1 h)]; simp
  ·rw [if_neg h,if_neg (fun e=>h ((B1E hF (by omega)).2 e))]; simp
def B78 {l m:List (Int×Int)} (hl:B94 l) (hm:B94 m) (h: ∀p,p∈l↔p∈m): ∀n,n≤12->rootsN (genS l).1 n=rootsN (genS m).1 n:=by
 intro n
 induction n with
 | zero=>intro _; rfl
 | succ n ih=>
  intro hn;simp only [rootsN,ih (by omega)];have h1:=A3Z hl (v:=n) (by omega);have h2:=A3Z hm (v:=n) (by omega);have h3:(∃u,u<n∧Conn l u n)↔(∃u,u<n∧Conn m u n):=
   ⟨fun ⟨u,h4,h5⟩=>⟨u,h4,h5.mono fun p hp=>(h p).1 hp⟩,fun ⟨u,h4,h5⟩=>⟨u,h4,h5.mono fun p hp=>(h p).2 hp⟩⟩
  by_cases e:(genS l).1[n]? =some n
  ·rw [if_pos e,if_pos (h2.2 fun x=>h1.1 e (h3.2 x))]
  ·rw [if_neg e,if_neg (fun x=>e (h1.2 fun y=>h2.1 x (h3.1 y)))]
def B3i {g:G} {n:Nat} (hc:checkG g=0) (hn:g.n=n):(A1f (genS (A2a g.es)).1 n).length=A2o g.es n n:=by
 have h12:=(A0h.1 hc).1;have hp:=A7y hc;have he:B94 (endsL g.es):=fun p h=>hp p ((B3h hc p).2 h);have h1:=A6a hc hn n (Qk _);have h2:=B78 hp he (B3h hc) n (by omega);have h3:=B4H (uf _ hp).ok n (by omega);rw [A0F]; omega
def B1H (g:G) (hl:g.es.length<2^30):ACall Tryz.prog 167 [tG g] (.tup [A05 (if checkG g≠0 then [] else A1f (genS (A2a g.es)).1 g.n.toNat),A0j (checkG g)]):=by
 have hC:=A8m g (by omega);by_cases hc:checkG g=0
 ·have hJ:=B7z g hc hl;have hF:=(uf _ (A7y hc)).ok;have h12:=(A0h.1 hc).1;rw [if_neg (by omega),hc];rw [hc] at hC;have hlF:=hF.len;unfold tF at hJ;obtain ⟨n,es⟩:=g;simp only at hJ h12 ⊢;generalize (genS (A2a es)).1=F at*
  have hP3:=B9T F hF n.toNat (by omega) (by omega) [.int .i64 n,.slice (A0f es) .none] (fun m _ c hc=>by
   simp only [QV,XJ,or_false] at hc
   rcases hc with rfl | rfl<;>exact Qv3) (fun c hc=>by
   simp only [QV,XJ,or_false] at hc
   rcases hc with rfl | rfl<;>rfl)
  rw [show ((n.toNat:Nat):Int)=n by omega] at hP3;generalize A1f F n.toNat=ps at*;have hof:(fT F).map A0v=fC F:=B7x F;have hst:=A3C A2A F (by rw [hlF]; rfl);have hz:fC A2A=[.int .i64 0,.int .i64 0,.int .i64 0,.int .i64 0,.int .i64 0,.int .i64 0,.int .i64 0,.int .i64 0,.int .i64 0,.int .i64 0,.int .i64 0,.int .i64 0]:=rfl;rw [hz] at hst;refine ACall.of_body Tryz.func167 rfl (by kernel_rfl) ?_;simp only [entry,Tryz.ntmps167,tG];refine zU ?_;refine zJ Qv5 (zc @A0W (zc @A4r (zc @hof (zc @hst (zc @hlF Qv5))))) (zc hC (zc hJ Qv5)) (zc hP3 Qv5) Qv5 ?_;simp [A0s,A0r,Blk.cells,ty,Tryz.results167,A0o,A0p,toT,A0d,A0b,A0c,A0a,A0j,A05]
 ·rw [if_pos hc];generalize checkG g=E at*;obtain ⟨n,es⟩:=g;refine ACall.of_body Tryz.func167 rfl (by kernel_rfl) ?_;simp only [entry,Tryz.ntmps167,tG];refine zU ?_;refine zR (zc @hc Qv5) (zc hC Qv5) Qv5 ?_;simp [A0s,A0r,Blk.cells,ty,Tryz.results167,A0o,A0p,toT,A0d,A0b,A0c,A0a,A0j,A05,A0n]
def A3E (g:G) (hl:g.es.length<2^30):ACall Tryz.prog 129 [tG g] (.tup [A0q (decide (checkG g=0)&&connB g),A0j (checkG g)]):=by
 have hC:=B1H g hl;by_cases hc:checkG g=0
 ·have h12:=(A0h.1 hc).1;have hcnt:=B3i (n:=g.n.toNat) hc (by omega);rw [if_neg (by omega)] at hC;have hb:(decide (checkG g=0)&&connB g)=decide (((A1f (genS (A2a g.es)).1 g.n.toNat).length:Int)=1):=by
   rw [decide_eq_true hc,VQ];unfold connB;rw [<-hcnt];exact decide_eq_decide.2 (by omega)
  rw [hb];generalize A1f (genS (A2a g.es)).1 g.n.toNat=ps at*;generalize checkG g=E at*;obtain ⟨n,es⟩:=g;refine ACall.of_body Tryz.func129 rfl (by kernel_rfl) ?_;simp only [entry,Tryz.ntmps129,tG];refine zU ?_;refine zR (zc @A0i Qv5) (zc hC Qv5) Qv5 ?_;simp [A0s,A0r,Blk.cells,ty,Tryz.results129,A0o,A0p,toT,A0d,A0b,A0c,A0a,A0j,A0q]
 ·rw [if_pos hc] at hC;rw [decide_eq_false hc,VW];generalize checkG g=E at*;obtain ⟨n,es⟩:=g;refine ACall.of_body Tryz.func129 rfl (by kernel_rfl) ?_;simp only [entry,Tryz.ntmps129,tG];refine zU ?_;refine zR (zc @A0i Qv5) (zc hC Qv5) Qv5 ?_;simp [A0s,A0r,Blk.cells,ty,Tryz.results129,A0o,A0p,toT,A0d,A0b,A0c,A0a,A0j,A0q]
structure RSm (r:R):Prop where
 es:r.es.length≤40
 ar:r.ar.length<2^20
 l: ∀l,l∈r.ar->l.length<2^20
def A2O {g:G} (hl:g.es.length≤40) (hc:checkG g=0):(endsL g.es).length≤2000:=by
 obtain ⟨_,h2,_⟩:=A0h.1 hc;have:=A61 (es:=g.es) fun e he=>by have:=h2 e he; unfold okE at this; omega
 omega
def B0N (g:G) (hl:g.es.length≤40):ACall Tryz.prog 130 [tG g] (.tup [A06 (if checkG g≠0 then [] else endsL g.es),A0j (A0m g)]):=by
 have hE:=B4r g (by omega);have hC:=A3E g (by omega);unfold A0m;by_cases hc:checkG g=0
 ·rw [if_neg (by omega)] at hE ⊢;rw [if_neg (by omega)];rw [hc,decide_eq_true rfl,VQ] at hC;generalize connB g=b at*;generalize endsL g.es=L at*;obtain ⟨n,es⟩:=g;refine ACall.of_body Tryz.func130 rfl (by kernel_rfl) ?_;simp only [entry,Tryz.ntmps130,tG];refine zU ?_;cases b with
  | true=>
   rw [if_pos rfl];refine zR Qv5 (zc hE (zc hC Qv5)) Qv5 ?_;simp [A0s,A0r,Blk.cells,ty,Tryz.results130,A0o,A0p,toT,A0d,A0b,A0c,A0a,A0j,A06]
  | false=>
   rw [if_neg (by simp)];refine zR Qv5 (zc hE (zc hC Qv5)) Qv5 ?_;simp [A0s,A0r,Blk.cells,ty,Tryz.results130,A0o,A0p,toT,A0d,A0b,A0c,A0a,A0j,A06]
 ·rw [if_pos hc] at hE ⊢;rw [if_pos hc];generalize checkG g=E at*;obtain ⟨n,es⟩:=g;refine ACall.of_body Tryz.func130 rfl (by kernel_rfl) ?_;simp only [entry,Tryz.ntmps130,tG];refine zU ?_;refine zR (zc @hc Qv5) (zc hE Qv5) Qv5 ?_;simp [A0s,A0r,Blk.cells,ty,Tryz.results130,A0o,A0p,toT,A0d,A0b,A0c,A0a,A0j,A06,A0U]
def B4I (r:R) (hr:RSm r):ACall Tryz.prog 105 [tR r] (.tup [A06 (if ribE r≠0 then [] else endsL r.es),A0j (ribE r)]):=by
 have hJ:=B0N r.g hr.es;by_cases hj:A0m r.g=0
 case neg=>
  have e:ribE r=A0m r.g:=by unfold ribE; rw [if_pos hj]
  rw [e,if_pos hj];have hL: ∃L,(if checkG r.g≠0 then [] else endsL r.g.es)=L:=⟨_,rfl⟩;obtain ⟨L,hL⟩:=hL;rw [hL] at hJ;generalize A0m r.g=E at*;obtain ⟨n,es,ar⟩:=r;refine ACall.of_body Tryz.func105 rfl (by kernel_rfl) ?_;simp only [entry,Tryz.ntmps105,tR];refine zU ?_;refine zR (zc @hj Qv5) (zc hJ Qv5) Qv5 ?_;simp [A0s,A0r,Blk.cells,ty,Tryz.results105,A0o,A0p,toT,A0d,A0b,A0c,A0a,A0j,A06,A0U]
 have hc:checkG r.g=0:=by
  unfold A0m at hj;by_cases h:checkG r.g=0
  ·exact h
  ·rw [if_pos h] at hj; exact absurd hj h
 have h12:=(A0h.1 hc).1;rw [if_neg (by omega),hj] at hJ;have hlen:=A2O (g:=r.g) hr.es hc;have hat: ∀h,h<2*(endsL r.es).length->0≤atL (endsL r.es) h∧atL (endsL r.es) h<(r.n.toNat:Nat):=fun h hh=>by
  have h12':1≤r.n:=h12.1;have:=A1H hc hh; omega
 have hn:r.n=(r.n.toNat:Nat):=by have h12':1≤r.n:=h12.1; omega
 have hnb:r.n≤12:=h12.2;have hA:=hr.ar;have hLl:=hr.l;have eR:ribE r=if (r.ar.length:Int)≠r.n then 8 else A9Y (endsL r.es) (2*(endsL r.es).length) 0 r.ar:=by unfold ribE; rw [if_neg (by omega)]
 rw [eR];have hH:=B2Y (endsL r.es) r.n.toNat (by omega) (by have:(endsL r.es).length≤2000:=hlen; omega) hat;rw [<-hn] at hH;clear hr hj hc h12 hat eR;obtain ⟨n,es,ar⟩:=r;simp only [R.g] at hJ hlen hH hn hnb hA hLl ⊢;generalize endsL es=L at*;generalize hk:n.toNat=k at*;subst hn;refine ACall.of_body Tryz.func105 rfl (by kernel_rfl) ?_;simp only [entry,Tryz.ntmps105,tR];refine zU ?_;by_cases hlen2:ar.length=k
 case neg=>
  have hI: ¬((ar.length:Int)=k):=by omega
  rw [if_pos hI];refine zR (zc @A0i (zc @hI Qv5)) (zc hJ Qv5) Qv5 ?_;simp [A0s,A0r,Blk.cells,ty,Tryz.results105,A0o,A0p,toT,A0d,A0b,A0c,A0a,A0j,A06,A0U]
 have hI:(ar.length:Int)=k:=by omega
 rw [if_neg (show ¬((ar.length:Int)≠(k:Int)) by omega)];refine zR (zc @A0i (zc @hI (zc @A0A Qv5))) (zc hJ (zc hH Qv5)) Qv5 ?_;refine AWp.loopS (α:=Nat) 48 (fun i=>[(1,.c (.ptr 0 0)),(4,.c (.slice (A0U L) .none)),(29,.c (.slice (A0n (A1d L k (2*L.length))) .none)),(30,.c (.int .i64 (k:Int))),(31,.c (.int .i64 (i:Int)))]) (fun i=>[.box [.int .i64 (k:Int),.slice (A0f es) .none,.slice (A0n ar) .none]]) (fun i=>i≤k∧A9Y L (2*L.length) 0 ar=A9Y L (2*L.length) i (ar.drop i)) (fun i=>k-i) (0) (hk:=Weak.headL 1 48 [1,4,29,30,31] zW) (h0:=?_) (round:=fun i hI=>?_)
 ·exact ⟨Xj _,rfl⟩
 ·obtain ⟨hi,hI2⟩:=hI;by_cases hlt:i<k
  ·have hltI:(i:Int)<k:=by omega
   have hil:i<ar.length:=by omega
   have e0:=Qq hil;have e1:=A0D e0;have e2:=A0D (A3j (L:=L) (k:=2*L.length) hlt);have hd:=Zk hil;have hl:=hLl _ (Xw hil);generalize ar[i]=l at*;have hol:=B1B L (i:Int) (2*L.length);have hlist:=C4N l (ownL L (i:Int) (2*L.length)) (B4v _ _ _) (by omega) (by omega);have hg:A9Y L (2*L.length) i (l::ar.drop (i+1))=if A2n l (ownL L (i:Int) (2*L.length))≠0 then A2n l (ownL L (i:Int) (2*L.length)) else A9Y L (2*L.length) (i+1) (ar.drop (i+1)):=rfl
   rw [<-hd,<-hI2] at hg;generalize A2n l (ownL L (i:Int) (2*L.length))=E at*;by_cases hE:E=0
   ·rw [if_neg (by omega)] at hg;subst hE;refine zR (zc @hltI (zc @A0i (zc @hI (zc @e1 (zc @e2 Qv5))))) (zc hlist Qv5) Qv5 ?_;refine ⟨i+1,Weak.headN 1 48 [1,4,29,30,31] zW,?_,?_⟩
    ·exact ⟨hlt,hg⟩
    ·omega
   ·rw [if_pos hE] at hg;rw [hg,if_pos hE];refine zR (zc @hltI (zc @A0i (zc @hI (zc @e1 (zc @e2 (zc @hE Qv5)))))) (zc hlist Qv5) Qv5 ?_;simp [A0s,A0r,Blk.cells,ty,Tryz.results105,A0o,A0p,toT,A0d,A0b,A0c,A0a,A0j,A06,A0U]
  ·have ei:i=k:=by omega
   subst ei;have hz:A9Y L (2*L.length) 0 ar=0:=by rw [hI2,VY (by omega)]; rfl
   have hnl: ¬((i:Int)<i):=by omega
   rw [hz,if_neg (by omega)];refine zR (zc @hnl Qv5) Qv5 Qv5 ?_;simp [A0s,A0r,Blk.cells,ty,Tryz.results105,A0o,A0p,toT,A0d,A0b,A0c,A0a,A0j,A06]
def C4b {l:List Int} (hn:l.Nodup) {i:Nat} {x:Int} (h:l[i]? =some x):l.idxOf x=i:=by
 obtain ⟨hi,e⟩:=Qx.1 h;obtain ⟨q1,q2⟩:=A3A (Qv h);have:=(Qx.1 q2).2;exact B5L hn q1 hi (this.trans e.symm)
section
variable {r:R}
end
def C7H (i n:Nat):Int.tmod ((i:Int)+1) (n:Int)=(((i+1)%n:Nat):Int):=rfl
def B3j (r:R) (hr:RSm r):ACall Tryz.prog 62 [tR r] (A0j (ribE r)):=by
 have h:=B4I r hr;generalize (if ribE r≠0 then [] else endsL r.es)=L at*;generalize ribE r=E at*;obtain ⟨n,es,ar⟩:=r;refine ACall.of_body Tryz.func62 rfl (by kernel_rfl) ?_;simp only [entry,Tryz.ntmps62,tR];refine zU ?_;refine zR Qv5 (zc h Qv5) Qv5 ?_;simp [A0s,A0r,Blk.cells,ty,Tryz.results62,A0o,A0p,toT,A0d,A0b,A0c,A0a,A0j]
def B9U (l:List E) (hne:l≠[]) (hl:l.length<2^30):ACall Tryz.prog 168 [.t (.slice (A0f l))] (.t (.slice (A0f l))):=by
 have hrn:A0f l≠[]:=by simpa [A0f] using hne
 have hrl:(A0f l).length=l.length:=A00 l;have hrk: ∀r,r∈A0f l->r.length=3:=fun r hr=>A63 hr;refine ACall.of_body Tryz.func168 rfl (by kernel_rfl) ?_;simp only [entry,Tryz.ntmps168];refine zU ?_;generalize A0f l=rows at*;refine zMc Qv5 (zc @hrl Qv5) Qv5 Qv5 (zc hrn (zc @hrk Qv5)) (ed fun hp hpc=>?_);simp [A0s,A0r,Blk.cells,ty,Tryz.results168,A0o,A0p,toT,A0d,A0b,A0c,A0a]
def B4J:ACall Tryz.prog 168 [.t (.slice [])] (.t (.slice [])):=by
 refine ACall.of_body Tryz.func168 rfl (by kernel_rfl) ?_;simp only [entry,Tryz.ntmps168];refine zU ?_;refine zM (zc Qv5 (prt 1 1)) Qv5 Qv5 Qv5 Qv5 (ed fun hp hpc=>?_);simp only [Zy,Yq];refine AReg.nilq (e:=132) false rfl rfl rfl (by simp only [ty]) rfl rfl (fun b=>AReg.rest (fun K hK=> ?_));cases b
 ·
  refine zMc trivial trivial trivial trivial trivial (ed fun hp hpc=>?_);simp [A0s,A0r,Blk.cells,ty,Tryz.results168,A0o,A0p,toT,A0d,A0b,A0c,A0a]
 ·
  refine zM trivial trivial trivial trivial trivial (ed fun hp hpc=>?_);simp [A0s,A0r,Blk.cells,ty,Tryz.results168,A0o,A0p,toT,A0d,A0b,A0c,A0a]
def B9V (g:G) (hl:g.es.length≤40):ACall Tryz.prog 131 [tG g] (tG g):=by
 obtain ⟨n,es⟩:=g;simp only at hl;by_cases he:es=[]
 ·subst he;have hN:=B4J;refine ACall.of_body Tryz.func131 rfl (by kernel_rfl) ?_;simp only [entry,Tryz.ntmps131,tG,A0f];refine zU ?_;refine zR Qv5 (zc hN Qv5) Qv5 ?_;simp [A0s,A0r,Blk.cells,ty,Tryz.results131,A0o,A0p,toT,A0d,A0b,A0c,A0a,tG,A0f]
 ·have hC:=B9U es he (by omega);refine ACall.of_body Tryz.func131 rfl (by kernel_rfl) ?_;simp only [entry,Tryz.ntmps131,tG];refine zU ?_;refine zR Qv5 (zc hC Qv5) Qv5 ?_;simp [A0s,A0r,Blk.cells,ty,Tryz.results131,A0o,A0p,toT,A0d,A0b,A0c,A0a,tG]
def B4K (g:G) (hl:g.es.length≤40):ACall Tryz.prog 79 [tG g] (.tup [tR (if A0m g≠0 then ⟨0,[],[]⟩ else ⟨g.n,g.es,A1d (endsL g.es) g.n.toNat (2*(endsL g.es).length)⟩),A0j (A0m g)]):=by
 have hJ:=B0N g hl;have hC:=B9V g hl;by_cases hj:A0m g=0
 case neg=>
  rw [if_pos hj];have hL: ∃L,(if checkG g≠0 then [] else endsL g.es)=L:=⟨_,rfl⟩;obtain ⟨L,hL⟩:=hL;rw [hL] at hJ;generalize A0m g=E at*;obtain ⟨n,es⟩:=g;refine ACall.of_body Tryz.func79 rfl (by kernel_rfl) ?_;simp only [entry,Tryz.ntmps79,tG];refine zU ?_;refine zR (zc @hj Qv5) (zc hJ Qv5) Qv5 ?_;simp [A0s,A0r,Blk.cells,ty,Tryz.results79,A0o,A0p,toT,A0d,A0b,A0c,A0a,A0j,tR,A0f,A0n]
 have hc:checkG g=0:=by
  unfold A0m at hj;by_cases h:checkG g=0
  ·exact h
  ·rw [if_pos h] at hj; exact absurd hj h
 have h12:=(A0h.1 hc).1;have hlen:=A2O hl hc;rw [if_neg (by omega),hj] at hJ;rw [if_neg (by omega),hj];have hat: ∀h,h<2*(endsL g.es).length->0≤atL (endsL g.es) h∧atL (endsL g.es) h<(g.n.toNat:Nat):=fun h hh=>by
  have:=A1H (r:=⟨g.n,g.es,[]⟩) hc hh;have h1:(⟨g.n,g.es,[]⟩:R).n=g.n:=rfl;have h2:(⟨g.n,g.es,[]⟩:R).es=g.es:=rfl;rw [h1,h2] at this;omega
 have hH:=B2Y (endsL g.es) g.n.toNat (by omega) (by omega) hat;rw [show ((g.n.toNat:Nat):Int)=g.n by omega] at hH;clear hat hc hj;obtain ⟨n,es⟩:=g;simp only at hH hJ ⊢;generalize A1d (endsL es) n.toNat (2*(endsL es).length)=hs at*;generalize endsL es=L at*;refine ACall.of_body Tryz.func79 rfl (by kernel_rfl) ?_;simp only [entry,Tryz.ntmps79,tG];refine zU ?_;refine zR Qv5 (zc hJ (zc hC (zc hH Qv5))) Qv5 ?_;simp [A0s,A0r,Blk.cells,ty,Tryz.results79,A0o,A0p,toT,A0d,A0b,A0c,A0a,A0j,tR]
def C5h (h:Nat):h ^^^ 1=oppH h:=by
 have h1:(h ^^^ 1) / 2=h / 2:=by
  have:=Nat.xor_div_two (a:=h) (b:=1);simpa using this
 have h2:(h ^^^ 1)%2=1-h%2:=by
  rcases Vj h with e | e
  ·have:(h ^^^ 1)%2=1:=by rw [Nat.xor_mod_two_eq_one]; simp [e]
   omega
  ·have: ¬(h ^^^ 1)%2=1:=by rw [Nat.xor_mod_two_eq_one]; simp [e]
   omega
 unfold oppH; omega
def C2U (h:Nat) (hh:h<2^40):IntKind.i64.wrap (((BitVec.ofInt IntKind.i64.bits (h:Int) ^^^ BitVec.ofInt IntKind.i64.bits 1).toNat:Nat):Int)=((oppH h:Nat):Int):=by
 have e1:(BitVec.ofInt IntKind.i64.bits (h:Int)).toNat=h:=by
  rw [BitVec.toNat_ofInt];show ((h:Int)%((2^64:Nat):Int)).toNat=h;omega
 have e2:(BitVec.ofInt IntKind.i64.bits 1).toNat=1:=by decide
 rw [BitVec.toNat_xor,e1,e2,C5h];exact wrap_in ⟨by omega,by unfold oppH; omega⟩
@[simp] theorem C7I (f:Nat->Nat) (s:Nat):it f 0 s=s:=rfl
def B8k (n:Int):TVal:= .t (.int .u64 n)
def C7J (n:Nat) (hn:n<2^32):B6I .and .u64 (n:Int) 4294967295=(n:Int):=by
 show IntKind.u64.wrap (((BitVec.ofInt IntKind.u64.bits (n:Int)&&&BitVec.ofInt IntKind.u64.bits 4294967295).toNat:Nat):Int)=(n:Int);have e1:(BitVec.ofInt IntKind.u64.bits (n:Int)).toNat=n:=by
  rw [BitVec.toNat_ofInt];show ((n:Int)%((2^64:Nat):Int)).toNat=n;omega
 have e2:(BitVec.ofInt IntKind.u64.bits 4294967295).toNat=2^32-1:=by decide
 rw [BitVec.toNat_and,e1,e2,Nat.and_two_pow_sub_one_eq_mod,Vw hn];exact wrap_in ⟨by omega,by omega⟩
def C7z (x:Int) (h0:0≤x) (h1:x<4294967296):x.fdiv (2^min 32 IntKind.u64.bits)=0:=by
 rw [show (2:Int)^min 32 IntKind.u64.bits=4294967296 by decide,Int.fdiv_eq_ediv_of_nonneg _ (by omega)];omega
def C5i (x:Int) (h0:0≤x) (h1:x<4294967296):x.fdiv (2^min 32 64)=0:=C7z x h0 h1
def C2V (n:Nat) (hn:n<2^30):ACall Tryz.prog 223 [B8k 1,B8k n] (.tup [B8k 0,B8k n]):=by
 have a1:B6I .and .u64 1 4294967295=1:=by decide
 have a0:B6I .and .u64 0 4294967295=0:=by decide
 have an:=C7J n (by omega);have s1:=C7z 1 (by omega) (by omega);have s0:=C7z 0 (by omega) (by omega);have sn:=C7z n (by omega) (by omega);have t1:=C5i 1 (by omega) (by omega);have t0:=C5i 0 (by omega) (by omega);have tn:=C5i n (by omega) (by omega);refine ACall.of_body Tryz.func223 rfl (by kernel_rfl) ?_;simp only [entry,Tryz.ntmps223,B8k];refine zU ?_;refine zR (zc @a1 (zc @a0 (zc @an (zc @s1 (zc @s0 (zc @sn (zc @t1 (zc @t0 (zc @tn (zc @Int.one_mul (zc @Int.zero_mul (zc @Qv2 (zc @Int.add_zero (zc @Int.zero_add Qv5)))))))))))))) Qv5 Qv5 ?_;simp [A0s,A0r,Blk.cells,ty,Tryz.results223,A0o,A0p,toT,A0d,A0b,A0c,A0a,B8k]
def C6L (n:Nat) (hn:n<2^30):ACall Tryz.prog 200 [B8k 1,B8k n] (.tup [B8k 0,B8k n]):=by
 have h:=C2V n hn;refine ACall.of_body Tryz.func200 rfl (by kernel_rfl) ?_;simp only [entry,Tryz.ntmps200,B8k];refine zU ?_;refine zR Qv5 (zc h Qv5) Qv5 ?_;simp [A0s,A0r,Blk.cells,ty,Tryz.results200,A0o,A0p,toT,A0d,A0b,A0c,A0a,B8k]
def B8l (N n:Nat):List Int:=List.replicate n (-1)++List.replicate (N-n) 0
def C2W {N n:Nat} (h:n≤N):(B8l N n).length=N:=by simp [B8l]; omega
def B9W (N:Nat):B8l N 0=List.replicate N 0:=by simp [B8l]
def C2X (N:Nat):B8l N N=List.replicate N (-1):=by simp [B8l]
def B9X {N n m:Nat} (h:m≤n):((iC (B8l N n)).drop 0).take m=iC (List.replicate m (-1)):=by
 unfold B8l;rw [Yq,B2Z,B9s,B9s,B9s,ZZ (by simpa using h),List.take_replicate,Qq6 h]
def B5U {N n m:Nat} (h:n+m≤N):setMany (iC (B8l N n)) n (iC (List.replicate m (-1)))=iC (B8l N (n+m)):=by
 have e:List.replicate (N-n) (0:Int)=List.replicate m 0++List.replicate (N-(n+m)) 0:=by
  rw [List.replicate_append_replicate]; congr 1; omega
 have e2:List.replicate (n+m) (-1:Int)=List.replicate n (-1)++List.replicate m (-1):=List.replicate_append_replicate.symm;unfold B8l;rw [e,e2,<-Zv,B2Z,B2Z,B2Z,B2Z];have:=B4y (iC (List.replicate n (-1))) (iC (List.replicate m 0)) (iC (List.replicate (N-(n+m)) 0)) (iC (List.replicate m (-1))) (by simp [A12]);rwa [A12,Yj] at this
def B9Y: ∀B:List Int,A4k (iC B)=true
 | []=>rfl
 | _::B=>B9Y B
def B9Z (N:Nat) (hN:N<2^20) (pre:List Blk) (hpre: ∀b,b∈pre->blkIn (pre.length+1) b):
  ACallH Tryz.prog 184 pre [.c (.slice [[.int .i64 (-1)]] .exact),.c (.int .i64 N)] (pre++[.box (iC (List.replicate N (-1)))]) (.c (.ref pre.length 1 0 N N)):=by
 have hgt: ∀X:Blk,(pre++[X])[pre.length]? =some X:=fun X=>by simp
 have hst: ∀X Y:Blk,(pre++[X]).set pre.length Y=pre++[Y]:=fun X Y=>by rw [Vq _ _ (Qk _),Jv]; rfl
 have hM:=C6L N (by omega);have n0: ¬((N:Int)<0):=by omega
 have n1: ¬(9223372036854775807<(N:Int)):=by omega
 refine ACallH.of_body Tryz.func184 rfl (by kernel_rfl) ?_;simp only [entry,Tryz.ntmps184,List.length_cons,List.length_nil,Nat.reduceAdd,Nat.reduceSub,List.replicate_succ,List.replicate_zero,List.cons_append,List.nil_append];by_cases hz:N=0
 ·subst hz;refine zR (zc @A1R (zc @hgt (zc @hst Qv5))) (zc hM Qv5) Qv5 ?_;refine AWp.loopS (α:=Unit) 48 (fun k=>[(7,.c (.ref pre.length 1 0 0 0)),(8,.c (.int .i64 0))]) (fun k=>pre++[.box (iC [])]) (fun k=>True) (fun k=>0) (()) (hk:=Weak.headL (pre.length+1) 48 [7,8] (zWs (B9t hpre))) (h0:=?_) (round:=fun k hI=>?_)
  ·trivial
  ·
   refine zR Qv5 Qv5 Qv5 ?_;simp [A4Q,A2f,A0o,A2e,Tryz.results184]
 ·have h1:=B5U (N:=N) (n:=0) (m:=1) (by omega);rw [XX,B9W] at h1;refine zR2 (zc @n0 (zc @n1 (zc @A1R (zc @hgt (zc @hst (zc @hz Qv5)))))) (zc hM Qv5) Qv5 ?_ ?_
  ·rw [A12,Yj]; omega
  ·have hfl:flatRows [[Tree.int IntKind.i64 (-1)]]=iC (List.replicate 1 (-1)):=rfl;rw [hfl,h1];refine AWp.loopS (α:=Nat) 48 (fun k=>[(7,.c (.ref pre.length 1 0 N N)),(8,.c (.int .i64 ((k:Int)+1)))]) (fun k=>pre++[.box (iC (B8l N (k+1)))]) (fun k=>k+1≤N) (fun k=>N-k) (0) (hk:=Weak.headL (pre.length+1) 48 [7,8] (zWs (B9t hpre))) (h0:=?_) (round:=fun k hI=>?_)
   ·omega
   ·have hk:k+1≤N:=hI;clear hI;by_cases hlt:k+1<N
    ·have hltI:(k:Int)+1<N:=by omega
     have ht:((k:Int)+1).toNat=k+1:=by omega
     obtain ⟨q,hq⟩: ∃q,Nat.min (k+1) (N-(k+1))=q:=⟨_,rfl⟩;have hq1:q≤k+1:=by rw [<-hq]; exact Nat.min_le_left _ _
     have hq2:q≤N-(k+1):=by rw [<-hq]; exact Nat.min_le_right _ _
     have hq3:1≤q:=by rw [<-hq]; exact Nat.le_min.2 ⟨by omega,by omega⟩
     have htk:=B9X (N:=N) hq1;rw [Yq] at htk;have hpu:=B5U (N:=N) (n:=k+1) (m:=q) (by omega);have hlenR:=C2W hk;have hfr:=B9Y (List.replicate q (-1));have hNt:(N:Int).toNat=N:=Int.toNat_natCast N;have l1:k+1+q≤N:=by omega
     have l2:q≤N:=by omega
     have b1:(0:Int)≤(k:Int)+1:=by omega
     have b2:(k:Int)+1≤N:=by omega
     refine zM Qv5 (zc @hltI (zc @ht (zc @hq (zc @hgt (zc @hst (zc @htk (zc @hpu (zc @A12 (zc @hlenR (zc @hfr (zc @hNt (zc @l1 (zc @l2 (zc @b1 (zc @b2 (zc @Nat.sub_zero (zc @Yq.{0} (zc @or_true (zc @true_or Qv5))))))))))))))))))) Qv5 Qv5 Qv5 (ed fun hp hpc=>?_);have e8:(k:Int)+1+(q:Int)=((k+q:Nat):Int)+1:=by omega
     have e9:k+1+q=k+q+1:=by omega
     rw [e8,e9];refine ⟨k+q,Weak.headN (pre.length+1) 48 [7,8] (zWs (B9t hpre)),?_,?_⟩
     ·omega
     ·omega
    ·have ek:k+1=N:=by omega
     have hnl: ¬((k:Int)+1<N):=by omega
     rw [ek,C2X];refine zR (zc @hnl Qv5) Qv5 Qv5 ?_;simp [A4Q,A2f,A0o,A2e,Tryz.results184]
def B0O (g:G) (hl:g.es.length≤40) (hc:checkG g=0):ACall Tryz.prog 86 [tG g] (A06 (endsL g.es)):=by
 have hs:=B8U (g:=g) (by omega) hc;exact B5E g hs.s hs.es hs.m
def B0P (g:G) (hl:g.es.length≤40) (hc:checkG g=0):ACall Tryz.prog 48 [tG g] (A0q (connB g)):=by
 have h12:=(A0h.1 hc).1;have hP:=C2I g g.n.toNat hc (by omega) (by omega);unfold connB;generalize A2o g.es g.n.toNat g.n.toNat=k at*;have e:decide (k=1)=decide ((k:Int)=1):=decide_eq_decide.2 (by omega);rw [e];obtain ⟨n,es⟩:=g;refine ACall.of_body Tryz.func48 rfl (by kernel_rfl) ?_;simp only [entry,Tryz.ntmps48,tG];refine zU ?_;refine zR Qv5 (zc hP Qv5) Qv5 ?_;simp [A0s,A0r,Blk.cells,ty,Tryz.results48,A0o,A0p,toT,A0d,A0b,A0c,A0a,A0q]
def A5d (g:G) (hl:g.es.length≤40):ACall Tryz.prog 43 [tG g] (A0j (A0m g)):=by
 have hC:=A6y g (by omega);unfold A0m;by_cases hc:checkG g=0
 ·have hK:=B0P g hl hc;have hCn:=hK;clear hK;rw [if_neg (by omega)];rw [hc] at hC;generalize connB g=b at*;obtain ⟨n,es⟩:=g;refine ACall.of_body Tryz.func43 rfl (by kernel_rfl) ?_;simp only [entry,Tryz.ntmps43,tG];refine zU ?_;cases b with
  | true=>
   rw [if_pos rfl];refine zR Qv5 (zc hC (zc hCn Qv5)) Qv5 ?_;simp [A0s,A0r,Blk.cells,ty,Tryz.results43,A0o,A0p,toT,A0d,A0b,A0c,A0a,A0j]
  | false=>
   rw [if_neg (by simp)];refine zR Qv5 (zc hC (zc hCn Qv5)) Qv5 ?_;simp [A0s,A0r,Blk.cells,ty,Tryz.results43,A0o,A0p,toT,A0d,A0b,A0c,A0a,A0j]
 ·rw [if_pos hc];generalize checkG g=E at*;obtain ⟨n,es⟩:=g;refine ACall.of_body Tryz.func43 rfl (by kernel_rfl) ?_;simp only [entry,Tryz.ntmps43,tG];refine zU ?_;refine zR (zc @hc Qv5) (zc hC Qv5) Qv5 ?_;simp [A0s,A0r,Blk.cells,ty,Tryz.results43,A0o,A0p,toT,A0d,A0b,A0c,A0a,A0j]
end Go.Proofs.YtdbdfkohpjefjaaGreat
