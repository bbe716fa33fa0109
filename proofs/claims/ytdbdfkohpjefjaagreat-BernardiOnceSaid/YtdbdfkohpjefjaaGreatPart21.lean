/- A part of the proof. -/
import Derived.Test.YtdbdfkohpjefjaaGreatPart17
import Derived.Test.YtdbdfkohpjefjaaGreatPart11
import Derived.Test.YtdbdfkohpjefjaaGreatPart20
set_option linter.all false
set_option maxHeartbeats 4000000
set_option maxRecDepth 100000
namespace Go.Proofs.YtdbdfkohpjefjaaGreat
open Go.Sp
theorem B4V:B1o Tryz.prog 134=some (3,3):=by simp only [ty]
theorem C14:A08 Tryz.prog 3=some (.int .i64 0):=by simp only [ty]
theorem A0J (F:List Nat) (v:Nat):(A1j F v).length=(A0I F v).length:=by simp [A1j]
theorem A29 {m b:Nat} {ls:List (List Int)} {n:Nat} (h:b+ls.length≤m):blkIn m (.box (chI b ls++List.replicate n .any)):=C3i (by simpa using h)
theorem C3A (b i:Nat) (ls:List (List Int)) (l:List Int) (R:List ACell) (h:i<ls.length):(chI b ls++R).set i (.slice (A0p l) (.chain (i+b)))=chI b (ls.set i l)++R:=by
 rw [Qq7 _ _ (by rw [A2q]; exact h),B8g]
theorem C5j {b i:Nat} {ls:List (List Int)} {l:List Int} (R:List ACell) (h:ls[i]? =some l):(chI b ls++R).drop i= .slice (A0p l) (.chain (i+b))::(chI b ls++R).drop (i+1):=by
 have hl:=(Qx.1 h).1;rw [List.drop_append_of_le_length (by rw [A2q]; omega),List.drop_append_of_le_length (by rw [A2q]; omega),B4H h]; rfl
theorem C3B (b:Nat) (ls:List (List Int)) (l:List Int) (R:List ACell):(chI b ls++[ACell.nils]++R).set ls.length (.slice (A0p l) (.chain (ls.length+b)))=chI b (ls++[l])++R:=by
 rw [Zk,JV _ _ (by rw [A2q]; exact QQ _),A2q,JQ];unfold chI;rw [Jv,Xk,Zj,B45];simp
theorem B2k (b:Nat) (ls:List (List Int)) (R:List ACell):(chI b ls++[ACell.nils]++R).drop ls.length= .nils::R:=by
 rw [Zk,List.drop_append,A2q,JQ,JZ (by rw [A2q]; exact QQ _)]; rfl
theorem B61 (b:Nat) (ls:List (List Int)) (R:List ACell):(chI b ls++[ACell.nils]++R)[ls.length]? =some .nils:=by
 have:=congrArg (·[0]?) (B2k b ls R);simpa using this
theorem C15 {b i:Nat} {ls:List (List Int)} {l:List Int} (R:List ACell) (h:ls[i]? =some l):(chI b ls++R)[i]? =some (.slice (A0p l) (.chain (i+b))):=by
 have hl:=(Qx.1 h).1;rw [Qv (by rw [A2q]; exact hl)];exact B8f h
theorem C16 (ls:List (List Int)) (l:List Int):chJ (ls++[l])=chJ ls++[.chain l.length 1]:=by
 unfold chJ; rw [Jv,Xk,Zj,C0N,A0e]
theorem C5k {j b:Nat} {ls:List (List Int)}: ∀c,c∈chI b ls->noJ j c=true:=C24
@[simp] theorem C5l (F:List Nat) (v:Nat):(chJ (A1j F v)).take (A0I F v).length=chJ (A1j F v):=A6u (by rw [A0J]; exact QQ _)
theorem B8Q {cs0:List ACell} {F:List Nat} (h0: ∀c,c∈cs0->noJ 3 c=true) {es:List (MKey×MV)} {b:Blk} {ps:List (List Int)}: ∀(i:Nat) blk,(Blk.box cs0:: .box (fC F):: .map es::b::chJ ps)[i]? =some blk->i≠3->noB 3 blk
 | 0,blk,h,_=>by simp at h; subst h; exact h0
 | 1,blk,h,_=>by
  simp at h; subst h;intro c hc;obtain ⟨n,_,rfl⟩:=QJ.1 hc;rfl
 | 2,blk,h,_=>by simp at h; subst h; trivial
 | 3,blk,h,hn=>absurd rfl hn
 | i+4,blk,h,_=>by
  have hm:=Qy (l:=chJ ps) (i:=i) (a:=blk) (by simpa using h);obtain ⟨r,_,rfl⟩:=QJ.1 hm;trivial
theorem B8R (F:List Nat) (hF:FOk F) (n:Nat) (h1:1≤n) (hn:n≤12) (cs0:List ACell) (hcs: ∀m,2≤m->blkIn m (.box cs0)) (hno: ∀c,c∈cs0->noJ 3 c=true):
  ACallH Tryz.prog 192 [.box cs0,.box (fC F)] [.c (.ptr 1 0),.c (.int .i64 (n:Int))] [.box cs0,.box (fC F)] (.c (.slice (A00 (A1j F n)) .none)):=by
 have hroot:=fun (v:Nat) (hv:v<12) (H:List Blk) (hH:H[1]? =some (.box (fC F)))=>A7f F hF v hv (id:=1) hH;refine ACallH.of_body Tryz.func192 rfl (by kernel_rfl) ?_;simp only [entry,Tryz.ntmps192,List.length_cons,List.length_nil,Nat.reduceAdd,Nat.reduceSub,List.replicate_succ,List.replicate_zero,List.cons_append,List.nil_append];refine zR Qw9 Qw9 Qw9 ?_;refine AWp.weak (Weak.asVec 5 1 rfl rfl (by simp)) ?_;simp only [List.length_cons,List.length_nil,List.set_cons_succ,List.set_cons_zero,List.cons_append,List.nil_append,Xy];refine AWp.loopS (α:=(Nat×Nat)) 43 (fun s=>[(0,.c (.ptr 1 0)),(5,.c (.vec 3 (A0I F s.1).length s.2)),(6,.c (.map 2)),(10,.c (.int .i64 (n:Int))),(11,.c (.int .i64 (s.1:Int)))]) (fun s=>.box cs0:: .box (fC F):: .map (mR 0 (A0I F s.1)):: .box (chI 4 (A1j F s.1)++List.replicate (s.2-(A0I F s.1).length) .any)::chJ (A1j F s.1)) (fun s=>s.1≤n∧(A0I F s.1).length≤s.2) (fun s=>n-s.1) ((0,0)) (hk:=Weak.headL ((A0I F ((0,0)).1).length+4) 43 [0,5,6,10,11] (by (repeat' (first | exact A0n _ | exact A0v _ | exact A0i _ | refine Qw8 ?_ ?_ | refine A0j ?_ ?_ | refine A0l ?_ ?_ | refine A0g ?_ ?_ | exact Qw7 | exact A29 (by rw [A0J]; omega) | exact A2j | exact hcs _ (by omega) | exact A0Z | (show _<_; omega) | exact A0q (fun _=>Qw7) | (intro c hc; cases hc; done) | (intro c hc; simp only [Qw,Qk,or_false] at hc; subst hc; first | exact Qw7 | exact A29 (by rw [A0J]; omega) | exact A2j | exact hcs _ (by omega) | exact A0Z | (show _<_; omega)) | (intro c hc; simp only [Qw,Qk,or_false] at hc; rcases hc with rfl | rfl<;>first | exact Qw7 | exact A29 (by rw [A0J]; omega) | exact A2j | exact hcs _ (by omega) | exact A0Z | (show _<_; omega)))))) (h0:=?_) (round:=fun s hI=>?_)
 ·exact ⟨Xj _,QQ _⟩
 ·obtain ⟨v,cap⟩:=s;obtain ⟨hv,hcap⟩:=hI;simp only at hv hcap ⊢;by_cases hlt:v<n
  ·have hltI:(v:Int)<n:=by omega
   have hR:=hroot v (by omega) _ (show (Blk.box cs0:: .box (fC F):: .map (mR 0 (A0I F v)):: .box (chI 4 (A1j F v)++List.replicate (cap-(A0I F v).length) .any)::chJ (A1j F v))[1]? =some (.box (fC F)) from rfl);have hle:=A2w hF (n:=12) (v:=v) (by omega);have hkl:=B6u F v;have hpl:=A0J F v;by_cases hrv:rootF F 12 v=v
   ·rw [hrv] at hR;have hnew:=B8D hF (by omega) hrv;have hsucc:=A4f F v;rw [if_pos hrv] at hsucc;have hnm: ¬v∈A0I F v:=fun h=>by have:=(A5r.1 h).1; omega
    have hput:=C5g hnm;have hnd:=A4Q F (v+1);rw [hsucc] at hnd;have hval:=C2E (k:=(A0I F v).length) (r:=v) hnd (by simp) (.c (.int .i64 0));generalize A0I F v=rs at*;generalize A1j F v=ps at*
    repeat' (first|((with_reducible refine AWp.seq (AWp.of_reg (id:=9) (AReg.pre 1 (fun K hK=>?_))));simp only [List.take_succ_cons,List.take_zero])|((with_reducible refine AWp.of_reg (id:=9) (AReg.pre 1 (fun K hK=>?_)));simp only [List.take_succ_cons,List.take_zero])|((first|(refine zT ?_;intro K' hK')|(refine zG ?_ ?_<;>(try refine zH ?_)<;>intro hguard<;>(try exact zX)<;>try intro K' hK'))<;>((try simp+contextual only [go_sem,hltI,hput,A15]);(repeat' first|(with_reducible refine hK' _ _ ?_;clear hK' K')|((with_reducible first|refine ⟨_,_,hR,?_⟩|refine ⟨_,hR,?_⟩);try simp+contextual only [go_sem,hltI,hput,A15])|(refine ⟨_,A7A,rfl,A6z,?_⟩ ; simp+contextual only [go_sem,hltI,hput,A15])|exact zY|with_reducible refine Qw8 ?_ ?_|(with_reducible intro hpath;try exact zP)|(refine hK' _ _ ?_;clear hK' K')|fail);try refine zS ?_))|(refine zE ?_;refine hK _ _ ?_;clear hK K)|(refine zN ?_;try refine zS ?_)|refine zA ?_|(refine zB ?_;intro K hK)|(refine zC ?_ ?_<;>(try refine zH ?_)<;>intro hcond<;>try exact zX)|fail)
    simp only [Zw,ZW];refine AReg.nilRow (e:=28) (z:= .slice none 0 0) rfl rfl rfl (by simp only [ty]) (by simp only [ty]) (by simp only [ty]) rfl ?_;refine AReg.grow (e:=28) (e2:=28) (by':=24) (z:= .slice none 0 0) (j:=3) (tr:= .raw (.slice none 0 0)) (tok:= .exact) (used:=chI 4 ps) rfl rfl rfl (by simp only [ty]) (by simp only [ty]) (by simp only [ty]) (by simp only [ty]) rfl (by simp only [ty]) rfl rfl (by rw [A2q,hpl]) hcap (by simp) rfl (by omega) (by omega) (B8Q hno) C5k (fun cap' hc'=> ?_);refine AReg.rest (fun K hK=> ?_);simp only [Xk,Zj,fgt,C0K,noJ,noK,A1f,List.set_cons_succ,List.set_cons_zero,cellOf,bne_self_eq_false,show ((1:Nat) != 3)=true from rfl,show ((2:Nat) != 3)=true from rfl,if_true,YZ,if_false];have w1:=B2k 4 ps (List.replicate (cap'-(rs.length+1)) .any);have w2:=C3B 4 ps [(v:Int)] (List.replicate (cap'-(rs.length+1)) .any);have w4:=B61 4 ps (List.replicate (cap'-(rs.length+1)) .any);rw [hpl] at w1 w2 w4;have w3:=C16 ps [(v:Int)]
    repeat' (first|(with_reducible refine AWp.seq_drawM B4V A7A C14 (by with_unfolding_all rfl) (by with_unfolding_all kernel_rfl) (fun K hK=>?_))|(with_reducible refine AWp.last_drawM B4V A7A C14 (by with_unfolding_all rfl) (by with_unfolding_all kernel_rfl) (fun K hK=>?_))|((first|(refine zT ?_;intro K' hK')|(refine zG ?_ ?_<;>(try refine zH ?_)<;>intro hguard<;>(try exact zX)<;>try intro K' hK'))<;>((try simp+contextual only [go_sem,hval,w1,w2,w4,chunks,List.range,List.range.loop,A15,Int.toNat_natCast]);(repeat' first|(with_reducible refine hK' _ _ ?_;clear hK' K')|(exact rfl)|(exact A6z)|(with_reducible exact A1p (by assumption))|exact zY|with_reducible refine Qw8 ?_ ?_|(with_reducible intro hpath;try exact zP)|(refine hK' _ _ ?_;clear hK' K')|fail);try refine zS ?_))|(refine zE ?_;refine hK _ _ ?_;clear hK K)|(refine zN ?_;try refine zS ?_)|refine zA ?_|(refine zB ?_;intro K hK)|(refine zC ?_ ?_<;>(try refine zH ?_)<;>intro hcond<;>try exact zX)|fail)
    ·rw [A2q,hpl,Yx]; omega
    ·have hl:(A0I F (v+1)).length=rs.length+1:=by rw [hsucc]; simp
     simp only [A0p,Xk,Zj] at w2;rw [A8C,hpl,w2,<-hnew,<-hsucc,show chJ ps++[Blk.chain 1 1]=chJ (A1j F (v+1)) from by rw [hnew,w3]; rfl];have ht2:(chJ (A1j F (v+1))).take (rs.length+1)=chJ (A1j F (v+1)):=A6u (by rw [A0J,hl]; exact QQ _);refine ⟨(v+1,cap'),Weak.headF ((A0I F ((v+1,cap')).1).length+4) 43 [0,5,6,10,11] (zc @hl (zc @ht2 Qw9)) (by (repeat' (first | exact A0n _ | exact A0v _ | exact A0i _ | refine Qw8 ?_ ?_ | refine A0j ?_ ?_ | refine A0l ?_ ?_ | refine A0g ?_ ?_ | exact Qw7 | exact A29 (by rw [A0J]; omega) | exact A2j | exact hcs _ (by omega) | exact A0Z | (show _<_; omega) | exact A0q (fun _=>Qw7) | (intro c hc; cases hc; done) | (intro c hc; simp only [Qw,Qk,or_false] at hc; subst hc; first | exact Qw7 | exact A29 (by rw [A0J]; omega) | exact A2j | exact hcs _ (by omega) | exact A0Z | (show _<_; omega)) | (intro c hc; simp only [Qw,Qk,or_false] at hc; rcases hc with rfl | rfl<;>first | exact Qw7 | exact A29 (by rw [A0J]; omega) | exact A2j | exact hcs _ (by omega) | exact A0Z | (show _<_; omega))))),?_,?_⟩
     ·exact ⟨hlt,by rw [hl]; exact hc'⟩
     ·simp only; omega
   ·obtain ⟨r,hr⟩: ∃r,rootF F 12 v=r:=⟨_,rfl⟩;have hrlt:r<v:=by omega
    have hfix:=A7Q hF (u:=v) (by omega);rw [hr] at hfix;have hrr:=A4P hF (u:=r) (by omega) hfix;have hmem:r∈A0I F v:=A5r.2 ⟨hrlt,hrr⟩;obtain ⟨k,hk,hkr⟩:=YJ.1 hmem;have hk':(A0I F v)[k]? =some r:=by rw [Qq hk,hkr]
    obtain ⟨e1,e2,e3⟩:=B8E hrv hk' hr;have hval:=C2E (A4Q F v) hk' (.c (.int .i64 0));rw [hr] at hR hrv;have hrvI: ¬((r:Int)=v):=by omega
    have hplen:(A7B F v r).length≤v:=by
     unfold A7B;rw [Zq];exact Yk (Jy _ _) (by simp)
    generalize A7B F v r=p at*;have hkI:(k:Int)<(A0I F v).length:=by omega
    have g1:=C15 (b:=4) (List.replicate (cap-(A0I F v).length) .any) e2;have g2:=C5j (b:=4) (List.replicate (cap-(A0I F v).length) .any) e2;have g3:=B8h e2;have g4:=C3A 4 k (A1j F v) (p++[(v:Int)]) (List.replicate (cap-(A0I F v).length) .any) (by omega);have g5:=B8i k (A1j F v) (p++[(v:Int)]) (n:=p.length+1) (by simp);rw [<-e3] at g4 g5;have hkc:k+1≤(A1j F v).length+(cap-(A0I F v).length):=by omega
    repeat' (first|(with_reducible refine AWp.seq_drawM B4V A7A C14 (by with_unfolding_all rfl) (by with_unfolding_all kernel_rfl) (fun K hK=>?_))|(with_reducible refine AWp.last_drawM B4V A7A C14 (by with_unfolding_all rfl) (by with_unfolding_all kernel_rfl) (fun K hK=>?_))|((first|(refine zT ?_;intro K' hK')|(refine zG ?_ ?_<;>(try refine zH ?_)<;>intro hguard<;>(try exact zX)<;>try intro K' hK'))<;>((try simp+contextual only [go_sem,hltI,hrvI,hkI,hval,g1,g2,g3,g4,g5,A2q,A8C,hpl,hkc,A0e,A2p,chunks,List.range,List.range.loop,A15,Int.toNat_natCast,Yx]);(repeat' first|(with_reducible refine hK' _ _ ?_;clear hK' K')|((with_reducible first|refine ⟨_,_,hR,?_⟩|refine ⟨_,hR,?_⟩);try simp+contextual only [go_sem,hltI,hrvI,hkI,hval,g1,g2,g3,g4,g5,A2q,A8C,hpl,hkc,A0e,A2p,chunks,List.range,List.range.loop,A15,Int.toNat_natCast,Yx])|(exact rfl)|(exact A6z)|(with_reducible exact A1p (by assumption))|exact zY|with_reducible refine Qw8 ?_ ?_|(with_reducible intro hpath;try exact zP)|(refine hK' _ _ ?_;clear hK' K')|fail);try refine zS ?_))|(refine zE ?_;refine hK _ _ ?_;clear hK K)|(refine zN ?_;try refine zS ?_)|refine zA ?_|(refine zB ?_;intro K hK)|(refine zC ?_ ?_<;>(try refine zH ?_)<;>intro hcond<;>try exact zX)|fail)
    have ht2:(chJ (A1j F (v+1))).take (A0I F v).length=chJ (A1j F (v+1)):=A6u (by rw [A0J,e1]; exact QQ _);refine ⟨(v+1,cap),Weak.headF ((A0I F ((v+1,cap)).1).length+4) 43 [0,5,6,10,11] (zc @e1 (zc @ht2 Qw9)) (by (repeat' (first | exact A0n _ | exact A0v _ | exact A0i _ | refine Qw8 ?_ ?_ | refine A0j ?_ ?_ | refine A0l ?_ ?_ | refine A0g ?_ ?_ | exact Qw7 | exact A29 (by rw [A0J]; omega) | exact A2j | exact hcs _ (by omega) | exact A0Z | (show _<_; omega) | exact A0q (fun _=>Qw7) | (intro c hc; cases hc; done) | (intro c hc; simp only [Qw,Qk,or_false] at hc; subst hc; first | exact Qw7 | exact A29 (by rw [A0J]; omega) | exact A2j | exact hcs _ (by omega) | exact A0Z | (show _<_; omega)) | (intro c hc; simp only [Qw,Qk,or_false] at hc; rcases hc with rfl | rfl<;>first | exact Qw7 | exact A29 (by rw [A0J]; omega) | exact A2j | exact hcs _ (by omega) | exact A0Z | (show _<_; omega))))),?_,?_⟩
    ·exact ⟨hlt,by rw [e1]; exact hcap⟩
    ·simp only; omega
  ·have ev:v=n:=by omega
   subst ev;have hnl: ¬((v:Int)<v):=by omega
   have hpos:0<(A0I F v).length:=Ww.2 fun h=>by
    have h0:0∈A0I F v:=A5r.2 ⟨by omega,by have:=A2w hF (n:=12) (v:=0) (by omega); omega⟩;rw [h] at h0; cases h0
   refine zJ (stop 12) (zc @hnl Qw9) Qw9 Qw9 Qw9 ?_;refine AWp.vecData 5 3 4 ((A1j F v).map A0p) rfl rfl hpos hcap (by rw [Zq,A0J]) (by simp) ?_;rw [C28];simp only [List.set_cons_succ,List.set_cons_zero];refine AWp.weak (Weak.head2 (m:=2) (by first | omega | simp) ((fun t f=>[f,f,f,f,f,t,f,f,f,f,f,f,f,f,f,f,f,f,f,f,f,f,f,f,f,f,f,f,f,f,f,f,f,f,f,f,f,f,f,f,f,f,f]) true false) rfl rfl (by (repeat' (first | exact A0n _ | exact A0v _ | exact A0i _ | refine Qw8 ?_ ?_ | refine A0j ?_ ?_ | refine A0l ?_ ?_ | refine A0g ?_ ?_ | exact Qw7 | exact A29 (by rw [A0J]; omega) | exact A2j | exact hcs _ (by omega) | exact A0Z | (show _<_; omega) | exact A0q (fun _=>Qw7) | (intro c hc; cases hc; done) | (intro c hc; simp only [Qw,Qk,or_false] at hc; subst hc; first | exact Qw7 | exact A29 (by rw [A0J]; omega) | exact A2j | exact hcs _ (by omega) | exact A0Z | (show _<_; omega)) | (intro c hc; simp only [Qw,Qk,or_false] at hc; rcases hc with rfl | rfl<;>first | exact Qw7 | exact A29 (by rw [A0J]; omega) | exact A2j | exact hcs _ (by omega) | exact A0Z | (show _<_; omega)))))) ?_;simp only [mask,List.take_succ_cons,List.take_zero,List.set_cons_succ,List.set_cons_zero];refine zR Qw9 Qw9 Qw9 ?_;simp [A4D,A1Y,A0s,A1X,Tryz.results192]
theorem B2l {g:G} (hc:checkG g=0) (p:Int×Int):p∈A1V g.es↔p∈endsL g.es:=by
 constructor
 ·intro h;obtain ⟨e,he,rfl⟩:=QJ.1 h;have:=(A0h.1 hc).2.1 e he;unfold okE at this;exact Jz.2 ⟨e,he,Wq.2 ⟨by omega,rfl⟩⟩
 ·intro h;obtain ⟨e,he,rfl⟩:=A3L h;exact QJ.2 ⟨e,he,rfl⟩
theorem B3J {F:List Nat} (hF:FOk F): ∀n,n≤12->rootsN F n=(A0I F n).length:=by
 intro n
 induction n with
 | zero=>intro _; rfl
 | succ n ih=>
  intro hn;rw [A4f];simp only [rootsN,ih (by omega)];by_cases h:rootF F 12 n=n
  ·rw [if_pos h,if_pos ((B0U hF (by omega)).1 h)]; simp
  ·rw [if_neg h,if_neg (fun e=>h ((B0U hF (by omega)).2 e))]; simp
theorem B62 {l m:List (Int×Int)} (hl:B89 l) (hm:B89 m) (h: ∀p,p∈l↔p∈m): ∀n,n≤12->rootsN (genS l).1 n=rootsN (genS m).1 n:=by
 intro n
 induction n with
 | zero=>intro _; rfl
 | succ n ih=>
  intro hn;simp only [rootsN,ih (by omega)];have h1:=A3O hl (v:=n) (by omega);have h2:=A3O hm (v:=n) (by omega);have h3:(∃u,u<n∧Conn l u n)↔(∃u,u<n∧Conn m u n):=
   ⟨fun ⟨u,h4,h5⟩=>⟨u,h4,h5.mono fun p hp=>(h p).1 hp⟩,fun ⟨u,h4,h5⟩=>⟨u,h4,h5.mono fun p hp=>(h p).2 hp⟩⟩
  by_cases e:(genS l).1[n]? =some n
  ·rw [if_pos e,if_pos (h2.2 fun x=>h1.1 e (h3.2 x))]
  ·rw [if_neg e,if_neg (fun x=>e (h1.2 fun y=>h2.1 x (h3.1 y)))]
theorem B2m {g:G} {n:Nat} (hc:checkG g=0) (hn:g.n=n):(A1j (genS (A1V g.es)).1 n).length=A1K g.es n n:=by
 have h12:=(A0h.1 hc).1;have hp:=A7g hc;have he:B89 (endsL g.es):=fun p h=>hp p ((B2l hc p).2 h);have h1:=A5P hc hn n (QQ _);have h2:=B62 hp he (B2l hc) n (by omega);have h3:=B3J (uf _ hp).ok n (by omega);rw [A0J]; omega
theorem B0X (g:G) (hl:g.es.length<2^30):ACall Tryz.prog 167 [tG g] (.tup [A0R (if checkG g≠0 then [] else A1j (genS (A1V g.es)).1 g.n.toNat),A0k (checkG g)]):=by
 have hC:=A7J g (by omega);by_cases hc:checkG g=0
 ·have hJ:=B6x g hc hl;have hF:=(uf _ (A7g hc)).ok;have h12:=(A0h.1 hc).1;rw [if_neg (by omega),hc];rw [hc] at hC;have hlF:=hF.len;unfold tF at hJ;obtain ⟨n,es⟩:=g;simp only at hJ h12 ⊢;generalize (genS (A1V es)).1=F at*
  have hP3:=B8R F hF n.toNat (by omega) (by omega) [.int .i64 n,.slice (A0f es) .none] (fun m _ c hc=>by
   simp only [Qw,Qk,or_false] at hc
   rcases hc with rfl | rfl<;>exact Qw7) (fun c hc=>by
   simp only [Qw,Qk,or_false] at hc
   rcases hc with rfl | rfl<;>rfl)
  rw [show ((n.toNat:Nat):Int)=n by omega] at hP3;generalize A1j F n.toNat=ps at*;have hof:(fT F).map A04=fC F:=B6v F;have hst:=A34 A23 F (by rw [hlF]; rfl);have hz:fC A23=[.int .i64 0,.int .i64 0,.int .i64 0,.int .i64 0,.int .i64 0,.int .i64 0,.int .i64 0,.int .i64 0,.int .i64 0,.int .i64 0,.int .i64 0,.int .i64 0]:=rfl;rw [hz] at hst;refine ACall.of_body Tryz.func167 rfl (by kernel_rfl) ?_;simp only [entry,Tryz.ntmps167,tG];refine zU ?_;refine zJ Qw9 (zc @A0V (zc @A4g (zc @hof (zc @hst (zc @hlF Qw9))))) (zc hC (zc hJ Qw9)) (zc hP3 Qw9) Qw9 ?_;simp [A0y,A0x,Blk.cells,ty,Tryz.results167,A0s,A0t,toT,A0d,A0b,A0c,A0a,A0k,A0R]
 ·rw [if_pos hc];generalize checkG g=E at*;obtain ⟨n,es⟩:=g;refine ACall.of_body Tryz.func167 rfl (by kernel_rfl) ?_;simp only [entry,Tryz.ntmps167,tG];refine zU ?_;refine zR (zc @hc Qw9) (zc hC Qw9) Qw9 ?_;simp [A0y,A0x,Blk.cells,ty,Tryz.results167,A0s,A0t,toT,A0d,A0b,A0c,A0a,A0k,A0R,A00]
theorem A36 (g:G) (hl:g.es.length<2^30):ACall Tryz.prog 129 [tG g] (.tup [A0z (decide (checkG g=0)&&connB g),A0k (checkG g)]):=by
 have hC:=B0X g hl;by_cases hc:checkG g=0
 ·have h12:=(A0h.1 hc).1;have hcnt:=B2m (n:=g.n.toNat) hc (by omega);rw [if_neg (by omega)] at hC;have hb:(decide (checkG g=0)&&connB g)=decide (((A1j (genS (A1V g.es)).1 g.n.toNat).length:Int)=1):=by
   rw [decide_eq_true hc,Vw];unfold connB;rw [<-hcnt];exact decide_eq_decide.2 (by omega)
  rw [hb];generalize A1j (genS (A1V g.es)).1 g.n.toNat=ps at*;generalize checkG g=E at*;obtain ⟨n,es⟩:=g;refine ACall.of_body Tryz.func129 rfl (by kernel_rfl) ?_;simp only [entry,Tryz.ntmps129,tG];refine zU ?_;refine zR (zc @A0o Qw9) (zc hC Qw9) Qw9 ?_;simp [A0y,A0x,Blk.cells,ty,Tryz.results129,A0s,A0t,toT,A0d,A0b,A0c,A0a,A0k,A0z]
 ·rw [if_pos hc] at hC;rw [decide_eq_false hc,VW];generalize checkG g=E at*;obtain ⟨n,es⟩:=g;refine ACall.of_body Tryz.func129 rfl (by kernel_rfl) ?_;simp only [entry,Tryz.ntmps129,tG];refine zU ?_;refine zR (zc @A0o Qw9) (zc hC Qw9) Qw9 ?_;simp [A0y,A0x,Blk.cells,ty,Tryz.results129,A0s,A0t,toT,A0d,A0b,A0c,A0a,A0k,A0z]
structure RSm (r:R):Prop where
 es:r.es.length≤40
 ar:r.ar.length<2^20
 l: ∀l,l∈r.ar->l.length<2^20
theorem A1B {g:G} (hl:g.es.length≤40) (hc:checkG g=0):(endsL g.es).length≤2000:=by
 obtain ⟨_,h2,_⟩:=A0h.1 hc;have:=A6p (es:=g.es) fun e he=>by have:=h2 e he; unfold okE at this; omega
 omega
theorem B0i (g:G) (hl:g.es.length≤40):ACall Tryz.prog 130 [tG g] (.tup [A0C (if checkG g≠0 then [] else endsL g.es),A0k (A0r g)]):=by
 have hE:=B3p g (by omega);have hC:=A36 g (by omega);unfold A0r;by_cases hc:checkG g=0
 ·rw [if_neg (by omega)] at hE ⊢;rw [if_neg (by omega)];rw [hc,decide_eq_true rfl,Vw] at hC;generalize connB g=b at*;generalize endsL g.es=L at*;obtain ⟨n,es⟩:=g;refine ACall.of_body Tryz.func130 rfl (by kernel_rfl) ?_;simp only [entry,Tryz.ntmps130,tG];refine zU ?_;cases b with
  | true=>
   rw [if_pos rfl];refine zR Qw9 (zc hE (zc hC Qw9)) Qw9 ?_;simp [A0y,A0x,Blk.cells,ty,Tryz.results130,A0s,A0t,toT,A0d,A0b,A0c,A0a,A0k,A0C]
  | false=>
   rw [if_neg (by simp)];refine zR Qw9 (zc hE (zc hC Qw9)) Qw9 ?_;simp [A0y,A0x,Blk.cells,ty,Tryz.results130,A0s,A0t,toT,A0d,A0b,A0c,A0a,A0k,A0C]
 ·rw [if_pos hc] at hE ⊢;rw [if_pos hc];generalize checkG g=E at*;obtain ⟨n,es⟩:=g;refine ACall.of_body Tryz.func130 rfl (by kernel_rfl) ?_;simp only [entry,Tryz.ntmps130,tG];refine zU ?_;refine zR (zc @hc Qw9) (zc hE Qw9) Qw9 ?_;simp [A0y,A0x,Blk.cells,ty,Tryz.results130,A0s,A0t,toT,A0d,A0b,A0c,A0a,A0k,A0C,A1c]
theorem B3K (r:R) (hr:RSm r):ACall Tryz.prog 105 [tR r] (.tup [A0C (if ribE r≠0 then [] else endsL r.es),A0k (ribE r)]):=by
 have hJ:=B0i r.g hr.es;by_cases hj:A0r r.g=0
 case neg=>
  have e:ribE r=A0r r.g:=by unfold ribE; rw [if_pos hj]
  rw [e,if_pos hj];have hL: ∃L,(if checkG r.g≠0 then [] else endsL r.g.es)=L:=⟨_,rfl⟩;obtain ⟨L,hL⟩:=hL;rw [hL] at hJ;generalize A0r r.g=E at*;obtain ⟨n,es,ar⟩:=r;refine ACall.of_body Tryz.func105 rfl (by kernel_rfl) ?_;simp only [entry,Tryz.ntmps105,tR];refine zU ?_;refine zR (zc @hj Qw9) (zc hJ Qw9) Qw9 ?_;simp [A0y,A0x,Blk.cells,ty,Tryz.results105,A0s,A0t,toT,A0d,A0b,A0c,A0a,A0k,A0C,A1c]
 have hc:checkG r.g=0:=by
  unfold A0r at hj;by_cases h:checkG r.g=0
  ·exact h
  ·rw [if_pos h] at hj; exact absurd hj h
 have h12:=(A0h.1 hc).1;rw [if_neg (by omega),hj] at hJ;have hlen:=A1B (g:=r.g) hr.es hc;have hat: ∀h,h<2*(endsL r.es).length->0≤atL (endsL r.es) h∧atL (endsL r.es) h<(r.n.toNat:Nat):=fun h hh=>by
  have h12':1≤r.n:=h12.1;have:=A1I hc hh; omega
 have hn:r.n=(r.n.toNat:Nat):=by have h12':1≤r.n:=h12.1; omega
 have hnb:r.n≤12:=h12.2;have hA:=hr.ar;have hLl:=hr.l;have eR:ribE r=if (r.ar.length:Int)≠r.n then 8 else A52 (endsL r.es) (2*(endsL r.es).length) 0 r.ar:=by unfold ribE; rw [if_neg (by omega)]
 rw [eR];have hH:=B2b (endsL r.es) r.n.toNat (by omega) (by have:(endsL r.es).length≤2000:=hlen; omega) hat;rw [<-hn] at hH;clear hr hj hc h12 hat eR;obtain ⟨n,es,ar⟩:=r;simp only [R.g] at hJ hlen hH hn hnb hA hLl ⊢;generalize endsL es=L at*;generalize hk:n.toNat=k at*;subst hn;refine ACall.of_body Tryz.func105 rfl (by kernel_rfl) ?_;simp only [entry,Tryz.ntmps105,tR];refine zU ?_;by_cases hlen2:ar.length=k
 case neg=>
  have hI: ¬((ar.length:Int)=k):=by omega
  rw [if_pos hI];refine zR (zc @A0o (zc @hI Qw9)) (zc hJ Qw9) Qw9 ?_;simp [A0y,A0x,Blk.cells,ty,Tryz.results105,A0s,A0t,toT,A0d,A0b,A0c,A0a,A0k,A0C,A1c]
 have hI:(ar.length:Int)=k:=by omega
 rw [if_neg (show ¬((ar.length:Int)≠(k:Int)) by omega)];refine zR (zc @A0o (zc @hI (zc @A0H Qw9))) (zc hJ (zc hH Qw9)) Qw9 ?_;refine AWp.loopS (α:=Nat) 48 (fun i=>[(1,.c (.ptr 0 0)),(4,.c (.slice (A1c L) .none)),(29,.c (.slice (A00 (A1h L k (2*L.length))) .none)),(30,.c (.int .i64 (k:Int))),(31,.c (.int .i64 (i:Int)))]) (fun i=>[.box [.int .i64 (k:Int),.slice (A0f es) .none,.slice (A00 ar) .none]]) (fun i=>i≤k∧A52 L (2*L.length) 0 ar=A52 L (2*L.length) i (ar.drop i)) (fun i=>k-i) (0) (hk:=Weak.headL 1 48 [1,4,29,30,31] zW) (h0:=?_) (round:=fun i hI=>?_)
 ·exact ⟨Xj _,rfl⟩
 ·obtain ⟨hi,hI2⟩:=hI;by_cases hlt:i<k
  ·have hltI:(i:Int)<k:=by omega
   have hil:i<ar.length:=by omega
   have e0:=Qq hil;have e1:=A0W e0;have e2:=A0W (A3f (L:=L) (k:=2*L.length) hlt);have hd:=XV hil;have hl:=hLl _ (Xw hil);generalize ar[i]=l at*;have hol:=A7O L (i:Int) (2*L.length);have hlist:=C3u l (ownL L (i:Int) (2*L.length)) (A8D _ _ _) (by omega) (by omega);have hg:A52 L (2*L.length) i (l::ar.drop (i+1))=if A1i l (ownL L (i:Int) (2*L.length))≠0 then A1i l (ownL L (i:Int) (2*L.length)) else A52 L (2*L.length) (i+1) (ar.drop (i+1)):=rfl
   rw [<-hd,<-hI2] at hg;generalize A1i l (ownL L (i:Int) (2*L.length))=E at*;by_cases hE:E=0
   ·rw [if_neg (by omega)] at hg;subst hE;refine zR (zc @hltI (zc @A0o (zc @hI (zc @e1 (zc @e2 Qw9))))) (zc hlist Qw9) Qw9 ?_;refine ⟨i+1,Weak.headN 1 48 [1,4,29,30,31] zW,?_,?_⟩
    ·exact ⟨hlt,hg⟩
    ·omega
   ·rw [if_pos hE] at hg;rw [hg,if_pos hE];refine zR (zc @hltI (zc @A0o (zc @hI (zc @e1 (zc @e2 (zc @hE Qw9)))))) (zc hlist Qw9) Qw9 ?_;simp [A0y,A0x,Blk.cells,ty,Tryz.results105,A0s,A0t,toT,A0d,A0b,A0c,A0a,A0k,A0C,A1c]
  ·have ei:i=k:=by omega
   subst ei;have hz:A52 L (2*L.length) 0 ar=0:=by rw [hI2,JZ (by omega)]; rfl
   have hnl: ¬((i:Int)<i):=by omega
   rw [hz,if_neg (by omega)];refine zR (zc @hnl Qw9) Qw9 Qw9 ?_;simp [A0y,A0x,Blk.cells,ty,Tryz.results105,A0s,A0t,toT,A0d,A0b,A0c,A0a,A0k,A0C]
theorem C2F {l:List Int} (hn:l.Nodup) {i:Nat} {x:Int} (h:l[i]? =some x):l.idxOf x=i:=by
 obtain ⟨hi,e⟩:=Qx.1 h;obtain ⟨q1,q2⟩:=A33 (Qy h);have:=(Qx.1 q2).2;exact B4I hn q1 hi (this.trans e.symm)
section
variable {r:R}
end
theorem C5m (i n:Nat):Int.tmod ((i:Int)+1) (n:Int)=(((i+1)%n:Nat):Int):=rfl
theorem C3C {L:List (Int×Int)} {p:Int×Int} {h:Nat} (hh:h<2*L.length):atL (L++[p]) h=atL L h:=by
 unfold atL;rw [Qz,Qz,Qv (by omega)]
theorem B4W {L:List (Int×Int)} {p:Int×Int} {v:Int}: ∀{k:Nat},k≤2*L.length->ownL (L++[p]) v k=ownL L v k
 | 0,_=>rfl
 | k+1,h=>by rw [A4M,A4M,C3C (by omega),B4W (by omega)]
theorem C3D (L:List (Int×Int)) (v:Int):((ownL L v (2*L.length)).length:Int)=A6G v L:=by
 refine A2H (P:=fun L=>((ownL L v (2*L.length)).length:Int)=A6G v L) rfl ?_ L;intro L p ih;rw [Xv,List.length_singleton,show 2*(L.length+1)=2*L.length+1+1 by omega,A4M,A4M,B4W (QQ _),B8p];have a1:atL (L++[p]) (2*L.length)=p.1:=by
  unfold atL;rw [if_pos (by omega),show 2*L.length / 2=L.length by omega,Qz]; simp
 have a2:atL (L++[p]) (2*L.length+1)=p.2:=by
  unfold atL;rw [if_neg (by omega),show (2*L.length+1) / 2=L.length by omega,Qz]; simp
 rw [a1,a2];unfold b2i;by_cases h1:p.1=v<;>by_cases h2:p.2=v<;>simp [h1,h2]<;>omega
theorem C17 {g:G} {n:Nat} (hc:checkG g=0) (hn:g.n=n) {v:Int} (hv:0≤v∧v<n):B2j g.es v n+2*A1G g.es v v=(ownL (endsL g.es) v (2*(endsL g.es).length)).length:=by
 obtain ⟨h1,h2,h3⟩:=A0h.1 hc;rw [C3D,C13 hc hn hv];exact (B4N (A5O h3) (fun x hx=>by have:=h2 x hx; unfold okE at this; omega) v).symm
theorem C5n {l own:List Int} (h:A3g own [] l=0) (hlen:l.length=own.length) (hs:own.Pairwise (·< ·)):(l≠[]∧l.getD 0 0≠own.getD 0 0)↔ ∃x,x∈l∧x<l.getD 0 0:=by
 obtain ⟨q1,q2,_⟩:=A7a h;have q3:=C29 q2 q1 hlen;rw [Yz] at hs;have hmin: ∀x,x∈own->own.getD 0 0≤x:=fun x hx=>by
  obtain ⟨k,hk,rfl⟩:=YJ.1 hx;rw [Qz,Qq (by omega),Option.getD_some];by_cases e:k=0
  ·subst e; exact Qx6 _
  ·have:=hs 0 k (by omega) hk (by omega); omega
 constructor
 ·rintro ⟨h1,h2⟩;have hp:0<l.length:=Ww.2 h1;have e1:l.getD 0 0=l[0]:=by rw [Qz,Qq hp]; rfl
  have e2:own.getD 0 0=own[0]'(by omega):=by rw [Qz,Qq (by omega)]; rfl
  have h3:=hmin (l.getD 0 0) (q1 _ (by rw [e1]; exact Xw _));exact ⟨own.getD 0 0,q3 _ (by rw [e2]; exact Xw _),by omega⟩
 ·intro h;obtain ⟨x,hx,hlt⟩:=h;refine ⟨fun e=> ?_,fun e=> ?_⟩
  ·rw [e] at hx; exact absurd hx (Qk)
  ·have:=hmin x (q1 x hx);omega
end Go.Proofs.YtdbdfkohpjefjaaGreat
