/- A part of the proof. -/
import Derived.Test.YtdhfgihnoimoaaaLayerC
import Derived.Test.YtdhfgihnoimoaaaPart09
import Derived.Test.YtdhfgihnoimoaaaPart16
import Derived.Test.YtdhfgihnoimoaaaPart13
import Derived.Test.YtdhfgihnoimoaaaPart08
import Derived.Test.YtdhfgihnoimoaaaPart10
set_option linter.all false
set_option maxHeartbeats 4000000
set_option maxRecDepth 100000
namespace Go.Proofs.Ytdhfgihnoimoaaa
open Go.Sp
theorem A0r {n q m:Nat} {es:List E} (hm:4≤m):blkIn m (.roC [.tree (.int .i64 (n:Int)),.tree (.slice (A0b es)),.tree (.int .i64 (q:Int)),.ref 2 1 0 n n,.ref 3 1 0 n n,.tree (.int .i64 0)]):=by
 intro c hc
 simp only [List.mem_cons,List.not_mem_nil,or_false] at hc
 rcases hc with rfl | rfl | rfl | rfl | rfl | rfl<;>first | exact True.intro | (show _<_; omega)
theorem A0j {m:Nat} {F:List Bool}:Go.Sp.cellsIn m (bC F):=A01 fun _=>True.intro
theorem A9y {d:List Int} (h:d≠[]):iC d≠[]:=by cases d<;>simp_all [iC]
theorem B6J {d:List Bool} (h:d≠[]):bC d≠[]:=by cases d<;>simp_all [bC]
theorem A43 {l:List (Int×Int)} {n:Nat} (hn:n=2) (k:Nat) (ts:List TVal) (h:(A5I l)[k]? =some ts):ts.length=n:=by
 obtain ⟨p,_,rfl⟩:=A2H h; exact hn.symm
theorem A2u {es:List E} {v:Int} {x:Int×Int} (h:x∈lnkL es v): ∃e,e∈es∧x.2=e.m∧e.a≠e.b∧((e.a=v∧x.1=e.b)∨(e.b=v∧x.1=e.a)):=by
 unfold lnkL at h
 obtain ⟨e,he,h⟩:=List.mem_filterMap.1 h
 unfold B4f at h
 split at h
 ·rename_i hc
  cases h
  refine ⟨e,he,rfl,hc.1,?_⟩
  rcases hc.2 with q | q
  ·exact .inl ⟨q,by simp only; omega⟩
  ·exact .inr ⟨q,by simp only; omega⟩
 ·cases h
theorem A5M (es:List E) (v:Int):(lnkL es v).length≤es.length:=List.length_filterMap_le _ _
theorem B7C (n q:Nat) (es:List E) (d s:List Int) (R:List Bool):A1x 7 [.box [.int .i64 (n:Int),.slice (A0b es) .none],.ro [.int .i64 (n:Int),.slice (A0b es)],.box (iC d),.box (iC s),.roC [.tree (.int .i64 (n:Int)),.tree (.slice (A0b es)),.tree (.int .i64 (q:Int)),.ref 2 1 0 n n,.ref 3 1 0 n n,.tree (.int .i64 0)],.box (bC R),.box [.ref 5 1 0 n n]]:=by
 have hg:blkIn 7 (.box [.int .i64 (n:Int),.slice (A0b es) .none]):=by intro c hc; simp only [List.mem_cons,List.not_mem_nil,or_false] at hc; rcases hc with rfl | rfl<;>exact True.intro
 exact A0i hg (A0i True.intro (A0i A0o (A0i A0o (A0i (A0r (by decide)) (A0i (A0j (F:=R)) (A0i (A0h (show 5<7 by decide) (A0l _)) (A04 _)))))))
theorem B7D (n q:Nat) (es:List E) (d s:List Int) (R:List Bool):A1x 6 [.box [.int .i64 (n:Int),.slice (A0b es) .none],.ro [.int .i64 (n:Int),.slice (A0b es)],.box (iC d),.box (iC s),.roC [.tree (.int .i64 (n:Int)),.tree (.slice (A0b es)),.tree (.int .i64 (q:Int)),.ref 2 1 0 n n,.ref 3 1 0 n n,.tree (.int .i64 0)],.box [.slice (A1m R) .none]]:=by
 have hg:blkIn 6 (.box [.int .i64 (n:Int),.slice (A0b es) .none]):=by intro c hc; simp only [List.mem_cons,List.not_mem_nil,or_false] at hc; rcases hc with rfl | rfl<;>exact True.intro
 exact A0i hg (A0i True.intro (A0i A0o (A0i A0o (A0i (A0r (by decide)) (A0i (A0h True.intro (A0l _)) (A04 _))))))
def joinL (p:Int→Bool) (l:List (Int×Int)):Int:=l.foldl (fun a x=>if p x.1=true then a+x.2 else a) 0
theorem A6x (p:Int→Bool) (l:List (Int×Int)) (x:Int×Int):joinL p (l++[x])=if p x.1=true then joinL p l+x.2 else joinL p l:=by simp [joinL]
theorem A7Y (p:Int→Bool) {l:List (Int×Int)} (h: ∀x,x∈l→0≤x.2∧x.2≤50):0≤joinL p l∧joinL p l≤50*l.length:=by
 revert h
 refine A9v (P:=fun l=>(∀x,x∈l→0≤x.2∧x.2≤50)→0≤joinL p l∧joinL p l≤50*l.length) ?_ ?_ l
 ·intro _; exact ⟨Int.le_refl _,Int.le_refl _⟩
 ·intro l x ih h
  have:=ih fun y hy=>h y (by simp [hy])
  have:=h x (by simp)
  rw [A6x,List.length_append,List.length_singleton]
  split<;>omega
theorem A7Z {H:List Blk} (n q:Nat) (es:List E) (v:Int) (h4:H[4]? =some (.roC [.tree (.int .i64 (n:Int)),.tree (.slice (A0b es)),.tree (.int .i64 (q:Int)),.ref 2 1 0 n n,.ref 3 1 0 n n,.tree (.int .i64 0)])):
  ACallH Try.prog 122 H [.c (.ptr 4 0),.c (.int .i64 v)] H (ofT (.t (.fn 126 [.rptr [.rptr [.int .i64 n,.slice (A0b es)]],.rptr [.int .i64 v]]))):=by
 refine ACall.hC (B62 n es v) rfl (fun ι σ w hH j x t u h1 h2 h3=> ?_)
 match j,h1,h2 with
 | 0,h1,h2=>
  simp at h1 h2; subst h1; subst h2
  exact B6p hH h4 rfl h3
 | 1,h1,h2=>
  simp at h1 h2; subst h1; subst h2
  cases h3; exact .int _ _
 | j+2,h1,h2=>simp at h1
theorem B3E (n q:Nat) (es:List E) (d s:List Int) (R:List Bool) (hd:d≠[]) (hs:s≠[]) (hR:R≠[]) (hl:es.length<2^20) (hm: ∀e,e∈es→(0≤e.a∧e.a<2^40)∧(0≤e.b∧e.b<2^40)∧0≤e.m∧e.m≤50) (v:Int) (hv:0≤v∧v<2^40) (f:FuncId) (p:Int→Bool)
  (hp: ∀(B:List Blk) u k,(u,k)∈lnkL es v→ACallH Try.prog f ([.box [.int .i64 (n:Int),.slice (A0b es) .none],.ro [.int .i64 (n:Int),.slice (A0b es)],.box (iC d),.box (iC s),.roC [.tree (.int .i64 (n:Int)),.tree (.slice (A0b es)),.tree (.int .i64 (q:Int)),.ref 2 1 0 n n,.ref 3 1 0 n n,.tree (.int .i64 0)],.box (bC R),.box [.ref 5 1 0 n n]]++B) [.c (.int .i64 u),.c (.ptr 6 0)] ([.box [.int .i64 (n:Int),.slice (A0b es) .none],.ro [.int .i64 (n:Int),.slice (A0b es)],.box (iC d),.box (iC s),.roC [.tree (.int .i64 (n:Int)),.tree (.slice (A0b es)),.tree (.int .i64 (q:Int)),.ref 2 1 0 n n,.ref 3 1 0 n n,.tree (.int .i64 0)],.box (bC R),.box [.ref 5 1 0 n n]]++B) (.c (.bool (p u)))):
  ACallH Try.prog 108 [.box [.int .i64 (n:Int),.slice (A0b es) .none],.ro [.int .i64 (n:Int),.slice (A0b es)],.box (iC d),.box (iC s),.roC [.tree (.int .i64 (n:Int)),.tree (.slice (A0b es)),.tree (.int .i64 (q:Int)),.ref 2 1 0 n n,.ref 3 1 0 n n,.tree (.int .i64 0)],.box (bC R),.box [.ref 5 1 0 n n]] [.c (.ptr 4 0),.c (.int .i64 v),.c (.fn f [.ptr 6 0])] ([.box [.int .i64 (n:Int),.slice (A0b es) .none],.ro [.int .i64 (n:Int),.slice (A0b es)],.box (iC d),.box (iC s),.roC [.tree (.int .i64 (n:Int)),.tree (.slice (A0b es)),.tree (.int .i64 (q:Int)),.ref 2 1 0 n n,.ref 3 1 0 n n,.tree (.int .i64 0)],.box (bC R),.box [.ref 5 1 0 n n]]++[.box [.fn f [.ptr 6 0]],.box [.int .i64 (joinL p (lnkL es v))]]) (.c (.int .i64 (joinL p (lnkL es v)))):=by
 have hI:=A4y n es v (by omega) (fun e he=>by have:=hm e he; exact ⟨this.1,this.2.1⟩) hv
 have hlk:=fun H h4=>A7Z (H:=H) n q es v h4
 have hdn:=A9y hd
 have hsn:=A9y hs
 have hRn:=B6J hR
 have hkb: ∀x,x∈lnkL es v→0≤x.2∧x.2≤50:=fun x hx=>by
  obtain ⟨e,he,h1,_⟩:=A2u hx
  have:=hm e he; rw [h1]; exact this.2.2
 have hll:(lnkL es v).length<2^20:=by have:=A5M es v; omega
 simp only [List.cons_append,List.nil_append] at hp ⊢
 refine ACallH.of_body Try.func108 rfl (by kernel_rfl) ?_
 simp only [entry,Try.ntmps108,List.length_cons,List.length_nil,Nat.reduceAdd,Nat.reduceSub,List.replicate_succ,List.replicate_zero,List.cons_append,List.nil_append]
 repeat' (first|((first|(refine zT ?_;intro K' hK')|(refine zG ?_ ?_<;>(try refine zH ?_)<;>intro hguard<;>(try exact zX)<;>try intro K' hK'))<;>((try simp+contextual only [go_sem,ofT,A3i,A0x,List.map_cons,List.map_nil]);(repeat' first|(with_reducible refine hK' _ _ ?_;clear hK' K')|((with_reducible first|refine ⟨_,_,hlk _ rfl,?_⟩|refine ⟨_,hlk _ rfl,?_⟩);try simp+contextual only [go_sem,ofT,A3i,A0x,List.map_cons,List.map_nil])|exact zY|with_reducible refine And.intro ?_ ?_|(with_reducible intro hpath;try exact zP)|(refine hK' _ _ ?_;clear hK' K')|fail);try refine zS ?_))|(refine zE ?_;refine hK _ _ ?_;clear hK K)|(refine zN ?_;try refine zS ?_)|refine zA ?_|(refine zB ?_;intro K hK)|(refine zC ?_ ?_<;>(try refine zH ?_)<;>intro hcond<;>try exact zX)|fail)
 refine AWp.weak (A0s.head (m:=9) (by omega) ((fun t f=>[f,f,f,f,f,t,f,t,f,f,f,f,t,f,f,f,f,f,f,f,f,f]) true false) (by first | rfl | simp [mask]) (by first | rfl | simp) (by (repeat' (first | exact A0q _ | refine A0n ?_ ?_ | refine A0h ?_ ?_ | exact A0l _ | exact True.intro | (show _<_; omega) | (intro c hc; cases hc; done) | (intro c hc; simp only [List.mem_cons,List.not_mem_nil,or_false] at hc; subst hc; first | exact True.intro | (show _<_; omega)) | (intro c hc; simp only [List.mem_cons,List.not_mem_nil,or_false] at hc; rcases hc with rfl | rfl<;>first | exact True.intro | (show _<_; omega))))) (by (repeat' (first | exact A0q _ | exact A04 _ | exact A0l _ | refine And.intro ?_ ?_ | refine A0n ?_ ?_ | refine A0i ?_ ?_ | refine A0h ?_ ?_ | exact True.intro | exact A0o | exact A0j | exact A0r (by omega) | (show _<_; omega) | exact A01 (fun _=>True.intro) | (intro c hc; cases hc; done) | (intro c hc; simp only [List.mem_cons,List.not_mem_nil,or_false] at hc; subst hc; first | exact True.intro | exact A0o | exact A0j | exact A0r (by omega) | (show _<_; omega)) | (intro c hc; simp only [List.mem_cons,List.not_mem_nil,or_false] at hc; rcases hc with rfl | rfl<;>first | exact True.intro | exact A0o | exact A0j | exact A0r (by omega) | (show _<_; omega)))))) (AWp.rangeFunc (fun k H=>H=[.box [.int .i64 (n:Int),.slice (A0b es) .none],.ro [.int .i64 (n:Int),.slice (A0b es)],.box (iC d),.box (iC s),.roC [.tree (.int .i64 (n:Int)),.tree (.slice (A0b es)),.tree (.int .i64 (q:Int)),.ref 2 1 0 n n,.ref 3 1 0 n n,.tree (.int .i64 0)],.box (bC R),.box [.ref 5 1 0 n n],.box [.fn f [.ptr 6 0]],.box [.int .i64 (joinL p ((lnkL es v).take k))]]∧(True)) (fun _ _=>False) 9 rfl (hI) (A43 rfl) (by omega) (by (repeat' (first | exact A0q _ | refine A0n ?_ ?_ | refine A0h ?_ ?_ | exact A0l _ | exact True.intro | (show _<_; omega) | (intro c hc; cases hc; done) | (intro c hc; simp only [List.mem_cons,List.not_mem_nil,or_false] at hc; subst hc; first | exact True.intro | (show _<_; omega)) | (intro c hc; simp only [List.mem_cons,List.not_mem_nil,or_false] at hc; rcases hc with rfl | rfl<;>first | exact True.intro | (show _<_; omega))))) (by rintro _ _ ⟨rfl,-⟩; simp [hdn,hsn,hRn]) (fun _ _ h=>h.elim) ?_ (fun l k ts H hts hI=> ?_) (fun H hI=> ?_) (fun e H h=>h.elim))
 ·exact ⟨rfl,trivial⟩
 ·obtain ⟨rfl,-⟩:=hI
  obtain ⟨x,hx,rfl⟩:=A2H hts
  have hk:k<(lnkL es v).length:=(List.getElem?_eq_some_iff.1 hx).1
  have hxm:=List.mem_of_getElem? hx
  have hkx:=hkb x hxm
  have hnx:=A6x p ((lnkL es v).take k) x
  rw [←take_snoc hx] at hnx
  have hb:=A7Y p (l:=(lnkL es v).take k) (fun y hy=>hkb y (List.mem_of_mem_take hy))
  rw [List.length_take] at hb
  have hpx:=hp [.box [.fn f [.ptr 6 0]],.box [.int .i64 (joinL p ((lnkL es v).take k))]] x.1 x.2 hxm
  generalize joinL p ((lnkL es v).take k)=a at*
  generalize hnk:joinL p ((lnkL es v).take (k+1))=a2 at*
  obtain ⟨u,m⟩:=x
  simp only at hpx hnx hkx ⊢
  simp only [mask,A53,List.zip_cons_cons,List.zip_nil_right,List.zip_nil_left,List.foldl_cons,List.foldl_nil,List.set_cons_succ,List.set_cons_zero,ofT,A3i,A0x,List.map_cons,List.map_nil,ofT,A3i,toT,A05,A0a,A0g,A09,A5l,tG,A5E,A0m,A37]
  cases hb2:p u with
  | true=>
   rw [hb2] at hpx
   rw [hb2,if_pos rfl] at hnx
   refine zJ trivial trivial trivial (zc hpx trivial) trivial ?_
   refine ⟨⟨_,_⟩,A0s.head2 (m:=9) (by decide) ((fun t f=>[f,f,f,f,f,f,f,f,f,f,f,f,f,f,f,f,f,f,f,f,f,f]) true false) rfl rfl (zV3 @A0o @A0j @A0r),?_,?_⟩
   ·rw [hnk,hnx]; rfl
   ·trivial
  | false=>
   rw [hb2] at hpx
   rw [hb2,if_neg (by simp)] at hnx
   refine zJ trivial trivial trivial (zc hpx trivial) trivial ?_
   refine ⟨⟨_,_⟩,A0s.head2 (m:=9) (by decide) ((fun t f=>[f,f,f,f,f,f,f,f,f,f,f,f,f,f,f,f,f,f,f,f,f,f]) true false) rfl rfl (zV3 @A0o @A0j @A0r),?_,?_⟩
   ·rw [hnk,hnx]; rfl
   ·trivial
 ·obtain ⟨rfl,-⟩:=hI
  rw [A2G,List.take_length]
  simp only [mask]
  refine zR trivial trivial trivial ?_
  simp [A2W,A1M,A0y,A1L,Try.results108]
theorem B05 (n q:Nat) (es:List E) (d s:List Int) (R:List Bool) (hd:d≠[]) (hs:s≠[]) (hR:R≠[]) (hl:es.length<2^20) (hm: ∀e,e∈es→(0≤e.a∧e.a<2^40)∧(0≤e.b∧e.b<2^40)∧0≤e.m∧e.m≤50) (v:Int) (hv:0≤v∧v<2^40) (f:FuncId) (p:Int→Bool)
  (hp: ∀(B:List Blk) u k,(u,k)∈lnkL es v→ACallH Try.prog f ([.box [.int .i64 (n:Int),.slice (A0b es) .none],.ro [.int .i64 (n:Int),.slice (A0b es)],.box (iC d),.box (iC s),.roC [.tree (.int .i64 (n:Int)),.tree (.slice (A0b es)),.tree (.int .i64 (q:Int)),.ref 2 1 0 n n,.ref 3 1 0 n n,.tree (.int .i64 0)],.box (bC R),.box [.ref 5 1 0 n n]]++B) [.c (.int .i64 u),.c (.ptr 6 0)] ([.box [.int .i64 (n:Int),.slice (A0b es) .none],.ro [.int .i64 (n:Int),.slice (A0b es)],.box (iC d),.box (iC s),.roC [.tree (.int .i64 (n:Int)),.tree (.slice (A0b es)),.tree (.int .i64 (q:Int)),.ref 2 1 0 n n,.ref 3 1 0 n n,.tree (.int .i64 0)],.box (bC R),.box [.ref 5 1 0 n n]]++B) (.c (.bool (p u)))):
  ACallH Try.prog 108 [.box [.int .i64 (n:Int),.slice (A0b es) .none],.ro [.int .i64 (n:Int),.slice (A0b es)],.box (iC d),.box (iC s),.roC [.tree (.int .i64 (n:Int)),.tree (.slice (A0b es)),.tree (.int .i64 (q:Int)),.ref 2 1 0 n n,.ref 3 1 0 n n,.tree (.int .i64 0)],.box (bC R),.box [.ref 5 1 0 n n]] [.c (.ptr 4 0),.c (.int .i64 v),.c (.fn f [.ptr 6 0])] [.box [.int .i64 (n:Int),.slice (A0b es) .none],.ro [.int .i64 (n:Int),.slice (A0b es)],.box (iC d),.box (iC s),.roC [.tree (.int .i64 (n:Int)),.tree (.slice (A0b es)),.tree (.int .i64 (q:Int)),.ref 2 1 0 n n,.ref 3 1 0 n n,.tree (.int .i64 0)],.box (bC R),.box [.ref 5 1 0 n n]] (.c (.int .i64 (joinL p (lnkL es v)))):=
 (B3E n q es d s R hd hs hR hl hm v hv f p hp).trim (Nat.le_refl _) True.intro (B7C n q es d s R)
theorem B3F (n q:Nat) (es:List E) (d s:List Int) (R:List Bool) (hd:d≠[]) (hs:s≠[]) (hR:R≠[]) (hl:es.length<2^20) (hm: ∀e,e∈es→(0≤e.a∧e.a<2^40)∧(0≤e.b∧e.b<2^40)∧0≤e.m∧e.m≤50) (v:Int) (hv:0≤v∧v<2^40) (f:FuncId) (p:Int→Bool)
  (hp: ∀(B:List Blk) u k,(u,k)∈lnkL es v→ACallH Try.prog f ([.box [.int .i64 (n:Int),.slice (A0b es) .none],.ro [.int .i64 (n:Int),.slice (A0b es)],.box (iC d),.box (iC s),.roC [.tree (.int .i64 (n:Int)),.tree (.slice (A0b es)),.tree (.int .i64 (q:Int)),.ref 2 1 0 n n,.ref 3 1 0 n n,.tree (.int .i64 0)],.box [.slice (A1m R) .none]]++B) [.c (.int .i64 u),.c (.ptr 5 0)] ([.box [.int .i64 (n:Int),.slice (A0b es) .none],.ro [.int .i64 (n:Int),.slice (A0b es)],.box (iC d),.box (iC s),.roC [.tree (.int .i64 (n:Int)),.tree (.slice (A0b es)),.tree (.int .i64 (q:Int)),.ref 2 1 0 n n,.ref 3 1 0 n n,.tree (.int .i64 0)],.box [.slice (A1m R) .none]]++B) (.c (.bool (p u)))):
  ACallH Try.prog 108 [.box [.int .i64 (n:Int),.slice (A0b es) .none],.ro [.int .i64 (n:Int),.slice (A0b es)],.box (iC d),.box (iC s),.roC [.tree (.int .i64 (n:Int)),.tree (.slice (A0b es)),.tree (.int .i64 (q:Int)),.ref 2 1 0 n n,.ref 3 1 0 n n,.tree (.int .i64 0)],.box [.slice (A1m R) .none]] [.c (.ptr 4 0),.c (.int .i64 v),.c (.fn f [.ptr 5 0])] ([.box [.int .i64 (n:Int),.slice (A0b es) .none],.ro [.int .i64 (n:Int),.slice (A0b es)],.box (iC d),.box (iC s),.roC [.tree (.int .i64 (n:Int)),.tree (.slice (A0b es)),.tree (.int .i64 (q:Int)),.ref 2 1 0 n n,.ref 3 1 0 n n,.tree (.int .i64 0)],.box [.slice (A1m R) .none]]++[.box [.fn f [.ptr 5 0]],.box [.int .i64 (joinL p (lnkL es v))]]) (.c (.int .i64 (joinL p (lnkL es v)))):=by
 have hI:=A4y n es v (by omega) (fun e he=>by have:=hm e he; exact ⟨this.1,this.2.1⟩) hv
 have hlk:=fun H h4=>A7Z (H:=H) n q es v h4
 have hdn:=A9y hd
 have hsn:=A9y hs
 have hRn:=B6J hR
 have hkb: ∀x,x∈lnkL es v→0≤x.2∧x.2≤50:=fun x hx=>by
  obtain ⟨e,he,h1,_⟩:=A2u hx
  have:=hm e he; rw [h1]; exact this.2.2
 have hll:(lnkL es v).length<2^20:=by have:=A5M es v; omega
 simp only [List.cons_append,List.nil_append] at hp ⊢
 refine ACallH.of_body Try.func108 rfl (by kernel_rfl) ?_
 simp only [entry,Try.ntmps108,List.length_cons,List.length_nil,Nat.reduceAdd,Nat.reduceSub,List.replicate_succ,List.replicate_zero,List.cons_append,List.nil_append]
 repeat' (first|((first|(refine zT ?_;intro K' hK')|(refine zG ?_ ?_<;>(try refine zH ?_)<;>intro hguard<;>(try exact zX)<;>try intro K' hK'))<;>((try simp+contextual only [go_sem,ofT,A3i,A0x,List.map_cons,List.map_nil]);(repeat' first|(with_reducible refine hK' _ _ ?_;clear hK' K')|((with_reducible first|refine ⟨_,_,hlk _ rfl,?_⟩|refine ⟨_,hlk _ rfl,?_⟩);try simp+contextual only [go_sem,ofT,A3i,A0x,List.map_cons,List.map_nil])|exact zY|with_reducible refine And.intro ?_ ?_|(with_reducible intro hpath;try exact zP)|(refine hK' _ _ ?_;clear hK' K')|fail);try refine zS ?_))|(refine zE ?_;refine hK _ _ ?_;clear hK K)|(refine zN ?_;try refine zS ?_)|refine zA ?_|(refine zB ?_;intro K hK)|(refine zC ?_ ?_<;>(try refine zH ?_)<;>intro hcond<;>try exact zX)|fail)
 refine AWp.weak (A0s.head (m:=8) (by omega) ((fun t f=>[f,f,f,f,f,t,f,t,f,f,f,f,t,f,f,f,f,f,f,f,f,f]) true false) (by first | rfl | simp [mask]) (by first | rfl | simp) (by (repeat' (first | exact A0q _ | refine A0n ?_ ?_ | refine A0h ?_ ?_ | exact A0l _ | exact True.intro | (show _<_; omega) | (intro c hc; cases hc; done) | (intro c hc; simp only [List.mem_cons,List.not_mem_nil,or_false] at hc; subst hc; first | exact True.intro | (show _<_; omega)) | (intro c hc; simp only [List.mem_cons,List.not_mem_nil,or_false] at hc; rcases hc with rfl | rfl<;>first | exact True.intro | (show _<_; omega))))) (by (repeat' (first | exact A0q _ | exact A04 _ | exact A0l _ | refine And.intro ?_ ?_ | refine A0n ?_ ?_ | refine A0i ?_ ?_ | refine A0h ?_ ?_ | exact True.intro | exact A0o | exact A0j | exact A0r (by omega) | (show _<_; omega) | exact A01 (fun _=>True.intro) | (intro c hc; cases hc; done) | (intro c hc; simp only [List.mem_cons,List.not_mem_nil,or_false] at hc; subst hc; first | exact True.intro | exact A0o | exact A0j | exact A0r (by omega) | (show _<_; omega)) | (intro c hc; simp only [List.mem_cons,List.not_mem_nil,or_false] at hc; rcases hc with rfl | rfl<;>first | exact True.intro | exact A0o | exact A0j | exact A0r (by omega) | (show _<_; omega)))))) (AWp.rangeFunc (fun k H=>H=[.box [.int .i64 (n:Int),.slice (A0b es) .none],.ro [.int .i64 (n:Int),.slice (A0b es)],.box (iC d),.box (iC s),.roC [.tree (.int .i64 (n:Int)),.tree (.slice (A0b es)),.tree (.int .i64 (q:Int)),.ref 2 1 0 n n,.ref 3 1 0 n n,.tree (.int .i64 0)],.box [.slice (A1m R) .none],.box [.fn f [.ptr 5 0]],.box [.int .i64 (joinL p ((lnkL es v).take k))]]∧(True)) (fun _ _=>False) 8 rfl (hI) (A43 rfl) (by omega) (by (repeat' (first | exact A0q _ | refine A0n ?_ ?_ | refine A0h ?_ ?_ | exact A0l _ | exact True.intro | (show _<_; omega) | (intro c hc; cases hc; done) | (intro c hc; simp only [List.mem_cons,List.not_mem_nil,or_false] at hc; subst hc; first | exact True.intro | (show _<_; omega)) | (intro c hc; simp only [List.mem_cons,List.not_mem_nil,or_false] at hc; rcases hc with rfl | rfl<;>first | exact True.intro | (show _<_; omega))))) (by rintro _ _ ⟨rfl,-⟩; simp [hdn,hsn,hRn]) (fun _ _ h=>h.elim) ?_ (fun l k ts H hts hI=> ?_) (fun H hI=> ?_) (fun e H h=>h.elim))
 ·exact ⟨rfl,trivial⟩
 ·obtain ⟨rfl,-⟩:=hI
  obtain ⟨x,hx,rfl⟩:=A2H hts
  have hk:k<(lnkL es v).length:=(List.getElem?_eq_some_iff.1 hx).1
  have hxm:=List.mem_of_getElem? hx
  have hkx:=hkb x hxm
  have hnx:=A6x p ((lnkL es v).take k) x
  rw [←take_snoc hx] at hnx
  have hb:=A7Y p (l:=(lnkL es v).take k) (fun y hy=>hkb y (List.mem_of_mem_take hy))
  rw [List.length_take] at hb
  have hpx:=hp [.box [.fn f [.ptr 5 0]],.box [.int .i64 (joinL p ((lnkL es v).take k))]] x.1 x.2 hxm
  generalize joinL p ((lnkL es v).take k)=a at*
  generalize hnk:joinL p ((lnkL es v).take (k+1))=a2 at*
  obtain ⟨u,m⟩:=x
  simp only at hpx hnx hkx ⊢
  simp only [mask,A53,List.zip_cons_cons,List.zip_nil_right,List.zip_nil_left,List.foldl_cons,List.foldl_nil,List.set_cons_succ,List.set_cons_zero,ofT,A3i,A0x,List.map_cons,List.map_nil,ofT,A3i,toT,A05,A0a,A0g,A09,A5l,tG,A5E,A0m,A37]
  cases hb2:p u with
  | true=>
   rw [hb2] at hpx
   rw [hb2,if_pos rfl] at hnx
   refine zJ trivial trivial trivial (zc hpx trivial) trivial ?_
   refine ⟨⟨_,_⟩,A0s.head2 (m:=8) (by decide) ((fun t f=>[f,f,f,f,f,f,f,f,f,f,f,f,f,f,f,f,f,f,f,f,f,f]) true false) rfl rfl (zV3 @A0o @A0j @A0r),?_,?_⟩
   ·rw [hnk,hnx]; rfl
   ·trivial
  | false=>
   rw [hb2] at hpx
   rw [hb2,if_neg (by simp)] at hnx
   refine zJ trivial trivial trivial (zc hpx trivial) trivial ?_
   refine ⟨⟨_,_⟩,A0s.head2 (m:=8) (by decide) ((fun t f=>[f,f,f,f,f,f,f,f,f,f,f,f,f,f,f,f,f,f,f,f,f,f]) true false) rfl rfl (zV3 @A0o @A0j @A0r),?_,?_⟩
   ·rw [hnk,hnx]; rfl
   ·trivial
 ·obtain ⟨rfl,-⟩:=hI
  rw [A2G,List.take_length]
  simp only [mask]
  refine zR trivial trivial trivial ?_
  simp [A2W,A1M,A0y,A1L,Try.results108]
theorem B5j (n q:Nat) (es:List E) (d s:List Int) (R:List Bool) (hd:d≠[]) (hs:s≠[]) (hR:R≠[]) (hl:es.length<2^20) (hm: ∀e,e∈es→(0≤e.a∧e.a<2^40)∧(0≤e.b∧e.b<2^40)∧0≤e.m∧e.m≤50) (v:Int) (hv:0≤v∧v<2^40) (f:FuncId) (p:Int→Bool)
  (hp: ∀(B:List Blk) u k,(u,k)∈lnkL es v→ACallH Try.prog f ([.box [.int .i64 (n:Int),.slice (A0b es) .none],.ro [.int .i64 (n:Int),.slice (A0b es)],.box (iC d),.box (iC s),.roC [.tree (.int .i64 (n:Int)),.tree (.slice (A0b es)),.tree (.int .i64 (q:Int)),.ref 2 1 0 n n,.ref 3 1 0 n n,.tree (.int .i64 0)],.box [.slice (A1m R) .none]]++B) [.c (.int .i64 u),.c (.ptr 5 0)] ([.box [.int .i64 (n:Int),.slice (A0b es) .none],.ro [.int .i64 (n:Int),.slice (A0b es)],.box (iC d),.box (iC s),.roC [.tree (.int .i64 (n:Int)),.tree (.slice (A0b es)),.tree (.int .i64 (q:Int)),.ref 2 1 0 n n,.ref 3 1 0 n n,.tree (.int .i64 0)],.box [.slice (A1m R) .none]]++B) (.c (.bool (p u)))):
  ACallH Try.prog 108 [.box [.int .i64 (n:Int),.slice (A0b es) .none],.ro [.int .i64 (n:Int),.slice (A0b es)],.box (iC d),.box (iC s),.roC [.tree (.int .i64 (n:Int)),.tree (.slice (A0b es)),.tree (.int .i64 (q:Int)),.ref 2 1 0 n n,.ref 3 1 0 n n,.tree (.int .i64 0)],.box [.slice (A1m R) .none]] [.c (.ptr 4 0),.c (.int .i64 v),.c (.fn f [.ptr 5 0])] [.box [.int .i64 (n:Int),.slice (A0b es) .none],.ro [.int .i64 (n:Int),.slice (A0b es)],.box (iC d),.box (iC s),.roC [.tree (.int .i64 (n:Int)),.tree (.slice (A0b es)),.tree (.int .i64 (q:Int)),.ref 2 1 0 n n,.ref 3 1 0 n n,.tree (.int .i64 0)],.box [.slice (A1m R) .none]] (.c (.int .i64 (joinL p (lnkL es v)))):=
 (B3F n q es d s R hd hs hR hl hm v hv f p hp).trim (Nat.le_refl _) True.intro (B7D n q es d s R)
end Go.Proofs.Ytdhfgihnoimoaaa
