/- A part of the proof. -/
import Derived.Test.YtdbdfkohpjefjaaGreatPart18
import Derived.Test.YtdbdfkohpjefjaaGreatPart17
set_option linter.all false
set_option maxHeartbeats 4000000
set_option maxRecDepth 100000
namespace Go.Proofs.YtdbdfkohpjefjaaGreat
open Go.Sp
theorem B0Y (F:List Nat) (k:Nat):rootsN F k=((List.range k).filter fun v=>decide (F[v]? =some v)).length:=by
 induction k with
 | zero=>rfl
 | succ k ih=>
  simp only [rootsN];rw [ih,Jq,JJ,Xv];by_cases h:F[k]? =some k<;>simp [h]
theorem A0G {n q m:Nat} {es:List E} (hm:4≤m):blkIn m (.roC [.tree (.int .i64 (n:Int)),.tree (.slice (A0f es)),.tree (.int .i64 (q:Int)),.ref 2 1 0 n n,.ref 3 1 0 n n,.tree (.int .i64 0)]):=by
 intro c hc;simp only [Qw,Qk,or_false] at hc;rcases hc with rfl | rfl | rfl | rfl | rfl | rfl<;>first | exact Qw7 | (show _<_; omega)
theorem A0F {m:Nat} {F:List Bool}:Go.Sp.cellsIn m (bC F):=A0q fun _=>Qw7
theorem B8S {d:List Int} (h:d≠[]):iC d≠[]:=by cases d<;>simp_all [iC]
theorem C6k {d:List Bool} (h:d≠[]):bC d≠[]:=by cases d<;>simp_all [bC]
theorem B2n {l:List (Int×Int)} {n:Nat} (hn:n=2) (k:Nat) (ts:List TVal) (h:(A6q l)[k]? =some ts):ts.length=n:=by
 obtain ⟨p,_,rfl⟩:=A6Z h; exact hn.symm
theorem A7i {es:List E} {v:Int} {x:Int×Int} (h:x∈lnkL es v): ∃e,e∈es∧x.2=e.m∧e.a≠e.b∧((e.a=v∧x.1=e.b)∨(e.b=v∧x.1=e.a)):=by
 unfold lnkL at h;obtain ⟨e,he,h⟩:=List.mem_filterMap.1 h;unfold C0Z at h;split at h
 ·rename_i hc;cases h;refine ⟨e,he,rfl,hc.1,?_⟩;rcases hc.2 with q | q
  ·exact .inl ⟨q,by simp only; omega⟩
  ·exact .inr ⟨q,by simp only; omega⟩
 ·cases h
theorem C18 (es:List E) (v:Int):(lnkL es v).length≤es.length:=List.length_filterMap_le _ _
theorem C5o (n q:Nat) (es:List E) (d s:List Int) (R:List Bool):A1s 7 [.box [.int .i64 (n:Int),.slice (A0f es) .none],.ro [.int .i64 (n:Int),.slice (A0f es)],.box (iC d),.box (iC s),.roC [.tree (.int .i64 (n:Int)),.tree (.slice (A0f es)),.tree (.int .i64 (q:Int)),.ref 2 1 0 n n,.ref 3 1 0 n n,.tree (.int .i64 0)],.box (bC R),.box [.ref 5 1 0 n n]]:=by
 have hg:blkIn 7 (.box [.int .i64 (n:Int),.slice (A0f es) .none]):=by intro c hc; simp only [Qw,Qk,or_false] at hc; rcases hc with rfl | rfl<;>exact Qw7
 exact A0l hg (A0l Qw7 (A0l A1e (A0l A1e (A0l (A0G (by decide)) (A0l (A0F (F:=R)) (A0l (A0g (show 5<7 by decide) (A0i _)) (A0v _)))))))
def joinL (p:Int->Bool) (l:List (Int×Int)):Int:=l.foldl (fun a x=>if p x.1=true then a+x.2 else a) 0
theorem B0j (p:Int->Bool) (l:List (Int×Int)) (x:Int×Int):joinL p (l++[x])=if p x.1=true then joinL p l+x.2 else joinL p l:=by simp [joinL]
theorem B3L (p:Int->Bool) {l:List (Int×Int)} (h: ∀x,x∈l->0≤x.2∧x.2≤50):0≤joinL p l∧joinL p l≤50*l.length:=by
 revert h;refine A2H (P:=fun l=>(∀x,x∈l->0≤x.2∧x.2≤50)->0≤joinL p l∧joinL p l≤50*l.length) ?_ ?_ l
 ·intro _; exact ⟨Qx6 _,Qx6 _⟩
 ·intro l x ih h;have:=ih fun y hy=>h y (by simp [hy]);have:=h x (by simp);rw [B0j,Xv,List.length_singleton];split<;>omega
theorem B8T {H:List Blk} (n q:Nat) (es:List E) (v:Int) (h4:H[4]? =some (.roC [.tree (.int .i64 (n:Int)),.tree (.slice (A0f es)),.tree (.int .i64 (q:Int)),.ref 2 1 0 n n,.ref 3 1 0 n n,.tree (.int .i64 0)])):
  ACallH Tryz.prog 185 H [.c (.ptr 4 0),.c (.int .i64 v)] H (ofT (.t (.fn 201 [.rptr [.rptr [.int .i64 n,.slice (A0f es)]],.rptr [.int .i64 v]]))):=by
 refine ACall.hC (C1a n es v) rfl (fun ι σ w hH j x t u h1 h2 h3=> ?_)
 match j,h1,h2 with
 | 0,h1,h2=>
  simp at h1 h2; subst h1; subst h2;exact C0R hH h4 rfl h3
 | 1,h1,h2=>
  simp at h1 h2; subst h1; subst h2;cases h3; exact .int _ _
 | j+2,h1,h2=>simp at h1
theorem B63 (n q:Nat) (es:List E) (d s:List Int) (R:List Bool) (hd:d≠[]) (hs:s≠[]) (hR:R≠[]) (hl:es.length<2^20) (hm: ∀e,e∈es->(0≤e.a∧e.a<2^40)∧(0≤e.b∧e.b<2^40)∧0≤e.m∧e.m≤50) (v:Int) (hv:0≤v∧v<2^40) (f:FuncId) (p:Int->Bool)
  (hp: ∀(B:List Blk) u k,(u,k)∈lnkL es v->ACallH Tryz.prog f ([.box [.int .i64 (n:Int),.slice (A0f es) .none],.ro [.int .i64 (n:Int),.slice (A0f es)],.box (iC d),.box (iC s),.roC [.tree (.int .i64 (n:Int)),.tree (.slice (A0f es)),.tree (.int .i64 (q:Int)),.ref 2 1 0 n n,.ref 3 1 0 n n,.tree (.int .i64 0)],.box (bC R),.box [.ref 5 1 0 n n]]++B) [.c (.int .i64 u),.c (.ptr 6 0)] ([.box [.int .i64 (n:Int),.slice (A0f es) .none],.ro [.int .i64 (n:Int),.slice (A0f es)],.box (iC d),.box (iC s),.roC [.tree (.int .i64 (n:Int)),.tree (.slice (A0f es)),.tree (.int .i64 (q:Int)),.ref 2 1 0 n n,.ref 3 1 0 n n,.tree (.int .i64 0)],.box (bC R),.box [.ref 5 1 0 n n]]++B) (.c (.bool (p u)))):
  ACallH Tryz.prog 161 [.box [.int .i64 (n:Int),.slice (A0f es) .none],.ro [.int .i64 (n:Int),.slice (A0f es)],.box (iC d),.box (iC s),.roC [.tree (.int .i64 (n:Int)),.tree (.slice (A0f es)),.tree (.int .i64 (q:Int)),.ref 2 1 0 n n,.ref 3 1 0 n n,.tree (.int .i64 0)],.box (bC R),.box [.ref 5 1 0 n n]] [.c (.ptr 4 0),.c (.int .i64 v),.c (.fn f [.ptr 6 0])] ([.box [.int .i64 (n:Int),.slice (A0f es) .none],.ro [.int .i64 (n:Int),.slice (A0f es)],.box (iC d),.box (iC s),.roC [.tree (.int .i64 (n:Int)),.tree (.slice (A0f es)),.tree (.int .i64 (q:Int)),.ref 2 1 0 n n,.ref 3 1 0 n n,.tree (.int .i64 0)],.box (bC R),.box [.ref 5 1 0 n n]]++[.box [.fn f [.ptr 6 0]],.box [.int .i64 (joinL p (lnkL es v))]]) (.c (.int .i64 (joinL p (lnkL es v)))):=by
 have hI:=B1T n es v (by omega) (fun e he=>by have:=hm e he; exact ⟨this.1,this.2.1⟩) hv;have hlk:=fun H h4=>B8T (H:=H) n q es v h4;have hdn:=B8S hd;have hsn:=B8S hs;have hRn:=C6k hR;have hkb: ∀x,x∈lnkL es v->0≤x.2∧x.2≤50:=fun x hx=>by
  obtain ⟨e,he,h1,_⟩:=A7i hx;have:=hm e he; rw [h1]; exact this.2.2
 have hll:(lnkL es v).length<2^20:=by have:=C18 es v; omega
 simp only [List.cons_append,List.nil_append] at hp ⊢;refine ACallH.of_body Tryz.func161 rfl (by kernel_rfl) ?_;simp only [entry,Tryz.ntmps161,List.length_cons,List.length_nil,Nat.reduceAdd,Nat.reduceSub,List.replicate_succ,List.replicate_zero,List.cons_append,List.nil_append]
 repeat' (first|((first|(refine zT ?_;intro K' hK')|(refine zG ?_ ?_<;>(try refine zH ?_)<;>intro hguard<;>(try exact zX)<;>try intro K' hK'))<;>((try simp+contextual only [go_sem,ofT,A2T,A04,Xk,Zj]);(repeat' first|(with_reducible refine hK' _ _ ?_;clear hK' K')|((with_reducible first|refine ⟨_,_,hlk _ rfl,?_⟩|refine ⟨_,hlk _ rfl,?_⟩);try simp+contextual only [go_sem,ofT,A2T,A04,Xk,Zj])|exact zY|with_reducible refine Qw8 ?_ ?_|(with_reducible intro hpath;try exact zP)|(refine hK' _ _ ?_;clear hK' K')|fail);try refine zS ?_))|(refine zE ?_;refine hK _ _ ?_;clear hK K)|(refine zN ?_;try refine zS ?_)|refine zA ?_|(refine zB ?_;intro K hK)|(refine zC ?_ ?_<;>(try refine zH ?_)<;>intro hcond<;>try exact zX)|fail)
 refine AWp.weak (Weak.head (m:=9) (by omega) ((fun t f=>[f,f,f,f,f,t,f,t,f,f,f,f,t,f,f,f,f,f,f,f,f,f]) true false) (by first | rfl | simp [mask]) (by first | rfl | simp) (by (repeat' (first | exact A0n _ | refine A0j ?_ ?_ | refine A0g ?_ ?_ | exact A0i _ | exact Qw7 | (show _<_; omega) | (intro c hc; cases hc; done) | (intro c hc; simp only [Qw,Qk,or_false] at hc; subst hc; first | exact Qw7 | (show _<_; omega)) | (intro c hc; simp only [Qw,Qk,or_false] at hc; rcases hc with rfl | rfl<;>first | exact Qw7 | (show _<_; omega))))) (by (repeat' (first | exact A0n _ | exact A0v _ | exact A0i _ | refine Qw8 ?_ ?_ | refine A0j ?_ ?_ | refine A0l ?_ ?_ | refine A0g ?_ ?_ | exact Qw7 | exact A1e | exact A0F | exact A0G (by omega) | (show _<_; omega) | exact A0q (fun _=>Qw7) | (intro c hc; cases hc; done) | (intro c hc; simp only [Qw,Qk,or_false] at hc; subst hc; first | exact Qw7 | exact A1e | exact A0F | exact A0G (by omega) | (show _<_; omega)) | (intro c hc; simp only [Qw,Qk,or_false] at hc; rcases hc with rfl | rfl<;>first | exact Qw7 | exact A1e | exact A0F | exact A0G (by omega) | (show _<_; omega)))))) (AWp.rangeFunc (fun k H=>H=[.box [.int .i64 (n:Int),.slice (A0f es) .none],.ro [.int .i64 (n:Int),.slice (A0f es)],.box (iC d),.box (iC s),.roC [.tree (.int .i64 (n:Int)),.tree (.slice (A0f es)),.tree (.int .i64 (q:Int)),.ref 2 1 0 n n,.ref 3 1 0 n n,.tree (.int .i64 0)],.box (bC R),.box [.ref 5 1 0 n n],.box [.fn f [.ptr 6 0]],.box [.int .i64 (joinL p ((lnkL es v).take k))]]∧(True)) (fun _ _=>False) 9 rfl (hI) (B2n rfl) (by omega) (by (repeat' (first | exact A0n _ | refine A0j ?_ ?_ | refine A0g ?_ ?_ | exact A0i _ | exact Qw7 | (show _<_; omega) | (intro c hc; cases hc; done) | (intro c hc; simp only [Qw,Qk,or_false] at hc; subst hc; first | exact Qw7 | (show _<_; omega)) | (intro c hc; simp only [Qw,Qk,or_false] at hc; rcases hc with rfl | rfl<;>first | exact Qw7 | (show _<_; omega))))) (by rintro _ _ ⟨rfl,-⟩; simp [hdn,hsn,hRn]) (fun _ _ h=>h.elim) ?_ (fun l k ts H hts hI=> ?_) (fun H hI=> ?_) (fun e H h=>h.elim))
 ·exact ⟨rfl,trivial⟩
 ·obtain ⟨rfl,-⟩:=hI;obtain ⟨x,hx,rfl⟩:=A6Z hts;have hk:k<(lnkL es v).length:=(Qx.1 hx).1;have hxm:=Qy hx;have hkx:=hkb x hxm;have hnx:=B0j p ((lnkL es v).take k) x;rw [<-take_snoc hx] at hnx;have hb:=B3L p (l:=(lnkL es v).take k) (fun y hy=>hkb y (VQ hy));rw [Wv] at hb;have hpx:=hp [.box [.fn f [.ptr 6 0]],.box [.int .i64 (joinL p ((lnkL es v).take k))]] x.1 x.2 hxm;generalize joinL p ((lnkL es v).take k)=a at*;generalize hnk:joinL p ((lnkL es v).take (k+1))=a2 at*;obtain ⟨u,m⟩:=x;simp only at hpx hnx hkx ⊢;simp only [mask,A4u,List.zip_cons_cons,WV,List.zip_nil_left,List.foldl_cons,List.foldl_nil,List.set_cons_succ,List.set_cons_zero,ofT,A2T,A04,Xk,Zj,ofT,A2T,toT,A0t,A0a,A0k,A0z,A3o,tG,A0C,A0m,B0b];cases hb2:p u with
  | true=>
   rw [hb2] at hpx;rw [hb2,if_pos rfl] at hnx;refine zJ Qw9 Qw9 Qw9 (zc hpx Qw9) Qw9 ?_;refine ⟨⟨_,_⟩,Weak.head2 (m:=9) (by decide) ((fun t f=>[f,f,f,f,f,f,f,f,f,f,f,f,f,f,f,f,f,f,f,f,f,f]) true false) rfl rfl (zV3 @A1e @A0F @A0G),?_,?_⟩
   ·rw [hnk,hnx]; rfl
   ·trivial
  | false=>
   rw [hb2] at hpx;rw [hb2,if_neg (by simp)] at hnx;refine zJ Qw9 Qw9 Qw9 (zc hpx Qw9) Qw9 ?_;refine ⟨⟨_,_⟩,Weak.head2 (m:=9) (by decide) ((fun t f=>[f,f,f,f,f,f,f,f,f,f,f,f,f,f,f,f,f,f,f,f,f,f]) true false) rfl rfl (zV3 @A1e @A0F @A0G),?_,?_⟩
   ·rw [hnk,hnx]; rfl
   ·trivial
 ·obtain ⟨rfl,-⟩:=hI;rw [A6Y,Zy];simp only [mask];refine zR Qw9 Qw9 Qw9 ?_;simp [A4D,A1Y,A0s,A1X,Tryz.results161]
theorem B8U (n q:Nat) (es:List E) (d s:List Int) (R:List Bool) (hd:d≠[]) (hs:s≠[]) (hR:R≠[]) (hl:es.length<2^20) (hm: ∀e,e∈es->(0≤e.a∧e.a<2^40)∧(0≤e.b∧e.b<2^40)∧0≤e.m∧e.m≤50) (v:Int) (hv:0≤v∧v<2^40) (f:FuncId) (p:Int->Bool)
  (hp: ∀(B:List Blk) u k,(u,k)∈lnkL es v->ACallH Tryz.prog f ([.box [.int .i64 (n:Int),.slice (A0f es) .none],.ro [.int .i64 (n:Int),.slice (A0f es)],.box (iC d),.box (iC s),.roC [.tree (.int .i64 (n:Int)),.tree (.slice (A0f es)),.tree (.int .i64 (q:Int)),.ref 2 1 0 n n,.ref 3 1 0 n n,.tree (.int .i64 0)],.box (bC R),.box [.ref 5 1 0 n n]]++B) [.c (.int .i64 u),.c (.ptr 6 0)] ([.box [.int .i64 (n:Int),.slice (A0f es) .none],.ro [.int .i64 (n:Int),.slice (A0f es)],.box (iC d),.box (iC s),.roC [.tree (.int .i64 (n:Int)),.tree (.slice (A0f es)),.tree (.int .i64 (q:Int)),.ref 2 1 0 n n,.ref 3 1 0 n n,.tree (.int .i64 0)],.box (bC R),.box [.ref 5 1 0 n n]]++B) (.c (.bool (p u)))):
  ACallH Tryz.prog 161 [.box [.int .i64 (n:Int),.slice (A0f es) .none],.ro [.int .i64 (n:Int),.slice (A0f es)],.box (iC d),.box (iC s),.roC [.tree (.int .i64 (n:Int)),.tree (.slice (A0f es)),.tree (.int .i64 (q:Int)),.ref 2 1 0 n n,.ref 3 1 0 n n,.tree (.int .i64 0)],.box (bC R),.box [.ref 5 1 0 n n]] [.c (.ptr 4 0),.c (.int .i64 v),.c (.fn f [.ptr 6 0])] [.box [.int .i64 (n:Int),.slice (A0f es) .none],.ro [.int .i64 (n:Int),.slice (A0f es)],.box (iC d),.box (iC s),.roC [.tree (.int .i64 (n:Int)),.tree (.slice (A0f es)),.tree (.int .i64 (q:Int)),.ref 2 1 0 n n,.ref 3 1 0 n n,.tree (.int .i64 0)],.box (bC R),.box [.ref 5 1 0 n n]] (.c (.int .i64 (joinL p (lnkL es v)))):=
 (B63 n q es d s R hd hs hR hl hm v hv f p hp).trim (QQ _) Qw7 (C5o n q es d s R)
end Go.Proofs.YtdbdfkohpjefjaaGreat
