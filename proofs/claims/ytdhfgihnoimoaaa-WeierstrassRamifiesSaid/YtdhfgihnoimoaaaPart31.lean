/- A part of the proof. -/
import Derived.Test.YtdhfgihnoimoaaaLayerC
import Derived.Test.YtdhfgihnoimoaaaPart30
import Derived.Test.YtdhfgihnoimoaaaPart21
import Derived.Test.YtdhfgihnoimoaaaPart22
set_option linter.all false
set_option maxHeartbeats 4000000
set_option maxRecDepth 100000
namespace Go.Proofs.Ytdhfgihnoimoaaa
open Go.Sp
theorem B0A (n q:Nat) (es:List E) (d s:List Int) {m:Nat} (hm:4≤m):A1x m [.box [.int .i64 (n:Int),.slice (A0b es) .none],.ro [.int .i64 (n:Int),.slice (A0b es)],.box (iC d),.box (iC s),.roC [.tree (.int .i64 (n:Int)),.tree (.slice (A0b es)),.tree (.int .i64 (q:Int)),.ref 2 1 0 n n,.ref 3 1 0 n n,.tree (.int .i64 0)]]:=by
 have hg:blkIn m (.box [.int .i64 (n:Int),.slice (A0b es) .none]):=by intro c hc; simp only [List.mem_cons,List.not_mem_nil,or_false] at hc; rcases hc with rfl | rfl<;>exact True.intro
 exact A0i hg (A0i True.intro (A0i A0o (A0i A0o (A0i (A0r hm) (A04 _)))))
theorem B0B (v:Nat) (Q:List Nat):A0p (zI (v::Q))=[.int .i64 (v:Int)]::A0p (zI Q):=rfl
theorem A93 (n q:Nat) (es:List E) (d s:List Int) (h1:1≤n) (h12:n≤12) (hq:q<n) (hd:d.length=n) (hs:s.length=n) (hl:es.length≤40) (hm: ∀e,e∈es→(0≤e.a∧e.a<n)∧(0≤e.b∧e.b<n)∧0≤e.m∧e.m≤50) (B:List Int) (pB:Nat) (hB:DEnd es (A6W n q,[q],0) B pB) (hBl:B.length=n):
  ACallH Try.prog 105 [.box [.int .i64 (n:Int),.slice (A0b es) .none],.ro [.int .i64 (n:Int),.slice (A0b es)],.box (iC d),.box (iC s),.roC [.tree (.int .i64 (n:Int)),.tree (.slice (A0b es)),.tree (.int .i64 (q:Int)),.ref 2 1 0 n n,.ref 3 1 0 n n,.tree (.int .i64 0)]] [.c (.ptr 4 0)] (([.box [.int .i64 (n:Int),.slice (A0b es) .none],.ro [.int .i64 (n:Int),.slice (A0b es)],.box (iC d),.box (iC s),.roC [.tree (.int .i64 (n:Int)),.tree (.slice (A0b es)),.tree (.int .i64 (q:Int)),.ref 2 1 0 n n,.ref 3 1 0 n n,.tree (.int .i64 0)]]++[.box (iC B)])++[.box [.ref 5 1 0 n n],.box [.slice [] (.tail 8 pB)],.chain pB 1]) (.c (.ref 5 1 0 n n)):=by
 have hlk:=fun H v h4=>A7Z (H:=H) n q es v h4
 have hI:=fun (v:Nat) (hv:v<n)=>A4y n es v (by omega) (fun e he=>by have:=hm e he; omega) (by omega)
 have hkb: ∀(v:Nat) x,x∈lnkL es v→0≤x.1∧x.1<n:=fun v x hx=>by
  obtain ⟨e,he,e1,_,e2⟩:=A2u hx
  have:=hm e he
  rcases e2 with ⟨_,e2⟩ | ⟨_,e2⟩<;>(rw [e2]; omega)
 have hqI:(q:Int)<(n:Int):=by omega
 have hRp:=B5p n (by omega) [.box [.int .i64 (n:Int),.slice (A0b es) .none],.ro [.int .i64 (n:Int),.slice (A0b es)],.box (iC d),.box (iC s),.roC [.tree (.int .i64 (n:Int)),.tree (.slice (A0b es)),.tree (.int .i64 (q:Int)),.ref 2 1 0 n n,.ref 3 1 0 n n,.tree (.int .i64 0)]] (fun b hb=>B0A n q es d s (m:=6) (by decide) b hb)
 have hdn:iC d≠[]:=A9y (by intro e; rw [e] at hd; simp at hd; omega)
 have hsn:iC s≠[]:=A9y (by intro e; rw [e] at hs; simp at hs; omega)
 have hne: ∀{x:List Int},x.length=n→iC x≠[]:=fun {x} hx=>A9y (by intro e; rw [e] at hx; simp at hx; omega)
 have hrl:(List.replicate n (-1):List Int).length=n:=by simp
 have hr0:=A2z (List.replicate n (-1)) q 0
 have hr0':(iC (List.replicate n (-1))).set q (.int .i64 0)=iC (A6W n q):=hr0
 have hw0:=B2E (es:=es) hq
 simp only [List.cons_append,List.nil_append] at hRp ⊢
 refine ACallH.of_body Try.func105 rfl (by kernel_rfl) ?_
 simp only [entry,Try.ntmps105,List.length_cons,List.length_nil,Nat.reduceAdd,Nat.reduceSub,List.replicate_succ,List.replicate_zero,List.cons_append,List.nil_append]
 refine zJc trivial (zc @hqI (zc @hr0' (zc @hrl (zc @A0F (zc @Nat.zero_add trivial))))) trivial (zc hRp trivial) trivial ?_
 refine AWp.weak (A0s.tailB 7 0 1 rfl rfl (by simp)) ?_
 simp only [List.set_cons_succ,List.set_cons_zero,List.length_cons,List.length_nil,List.length_append,Nat.reduceAdd,List.cons_append,List.nil_append]
 refine AWp.loopS (α:=BS3) 56 (fun w=>[(0,.c (.ptr 4 0)),(3,.c (.ptr 6 0)),(4,.c (.ptr 7 0))]) (fun w=>[.box [.int .i64 (n:Int),.slice (A0b es) .none],.ro [.int .i64 (n:Int),.slice (A0b es)],.box (iC d),.box (iC s),.roC [.tree (.int .i64 (n:Int)),.tree (.slice (A0b es)),.tree (.int .i64 (q:Int)),.ref 2 1 0 n n,.ref 3 1 0 n n,.tree (.int .i64 0)],.box (iC w.1),.box [.ref 5 1 0 n n],.box [.slice (A0p (zI w.2.1)) (.tail 8 w.2.2)],.chain w.2.2 1]) (fun w=>DEnd es w B pB∧BFq es n q w.1 w.2.1∧2*cntNeg w.1+w.2.1.length≤30) (fun w=>2*cntNeg w.1+w.2.1.length) ((A6W n q,[q],0)) (hk:=A0s.headL 9 56 [0,3,4] (zV3 @A0o @A0j @A0r)) (h0:=?_) (round:=fun w hI=>?_)
 ·refine ⟨hB,hw0,?_⟩
  have:=hw0.bnd q hq
  have:=hw0.q0
  show 2*cntNeg (A6W n q)+1≤30
  omega
 ·obtain ⟨o,Q,p⟩:=w
  obtain ⟨hE,hF,hQb⟩:=hI
  simp only at hE hF hQb ⊢
  cases Q with
  | nil=>
   cases hE
   have e0:(A0p (zI ([]:List Nat))).length=0:=rfl
   have e1:A0p (zI ([]:List Nat))=[]:=rfl
   refine zR (zc @e0 (zc @e1 trivial)) trivial trivial ?_
   simp [A2W,A1M,A0y,A1L,Try.results105]
  | cons v Q=>
   have hP:=hF.pop
   have hvn:=hP.vv.1
   have hvI:(v:Int)<(n:Int):=by omega
   cases hE with
   | go hE=>
   have hall:=PBq.all (s:=(o,Q,p)) (hkb v) hP
   have hcn:=PBq.cnt (s:=(o,Q,p)) (hkb v) hP
   have hIk:=hI v hvn
   have hkbv:=hkb v
   have el:(0:Int)<((Q.length+1:Nat):Int):=by omega
   have hneJ: ∀l,iC (List.foldl (stepD v) (o,Q,p) l).1≠[]:=fun l=>hne ((B09 v l (o,Q,p)).trans hF.len)
   rw [B0B]
   have hQl:=hF.len
   repeat' (first|((with_reducible refine AWp.seq (AWp.of_reg (id:=6) (AReg.pre 1 (fun K hK=>?_))));simp only [List.take_succ_cons,List.take_zero])|((with_reducible refine AWp.of_reg (id:=6) (AReg.pre 1 (fun K hK=>?_)));simp only [List.take_succ_cons,List.take_zero])|((first|(refine zT ?_;intro K' hK')|(refine zG ?_ ?_<;>(try refine zH ?_)<;>intro hguard<;>(try exact zX)<;>try intro K' hK'))<;>((try simp+contextual only [go_sem,el,A0f,B7B,Int.toNat_natCast]);(repeat' first|(with_reducible refine hK' _ _ ?_;clear hK' K')|exact zY|with_reducible refine And.intro ?_ ?_|(with_reducible intro hpath;try exact zP)|(refine hK' _ _ ?_;clear hK' K')|fail);try refine zS ?_))|(refine zE ?_;refine hK _ _ ?_;clear hK K)|(refine zN ?_;try refine zS ?_)|refine zA ?_|(refine zB ?_;intro K hK)|(refine zC ?_ ?_<;>(try refine zH ?_)<;>intro hcond<;>try exact zX)|fail)
   simp only [List.drop_succ_cons,List.drop_zero]
   refine AReg.step rfl rfl (A6T (k:=1) (i:=8) (p:=p) (rows:=[.int .i64 (v:Int)]::A0p (zI Q)) (l:=1) _ _ _ rfl 3 (by simp only [ty]) (by simp only [ty]) (.inr rfl) rfl (fun r hr=>by rcases List.mem_cons.1 hr with rfl | hr; exact rfl; exact A1w hr) rfl (by decide) (by rw [List.length_cons]; omega)) ?_
   simp only [A1u,List.set_cons_succ,List.set_cons_zero,Int.toNat_one,List.drop_succ_cons,List.drop_zero]
   refine AReg.rest (fun K hK=> ?_)
   repeat' (first|((first|(refine zT ?_;intro K' hK')|(refine zG ?_ ?_<;>(try refine zH ?_)<;>intro hguard<;>(try exact zX)<;>try intro K' hK'))<;>((try simp+contextual only [go_sem,ofT,A3i,A0x,List.map_cons,List.map_nil]);(repeat' first|(with_reducible refine hK' _ _ ?_;clear hK' K')|((with_reducible first|refine ⟨_,_,hlk _ _ rfl,?_⟩|refine ⟨_,hlk _ _ rfl,?_⟩);try simp+contextual only [go_sem,ofT,A3i,A0x,List.map_cons,List.map_nil])|exact zY|with_reducible refine And.intro ?_ ?_|(with_reducible intro hpath;try exact zP)|(refine hK' _ _ ?_;clear hK' K')|fail);try refine zS ?_))|(refine zE ?_;refine hK _ _ ?_;clear hK K)|(refine zN ?_;try refine zS ?_)|refine zA ?_|(refine zB ?_;intro K hK)|(refine zC ?_ ?_<;>(try refine zH ?_)<;>intro hcond<;>try exact zX)|fail)
   refine AWp.weak (A0s.head (m:=10) (by omega) ((fun t f=>[t,f,f,t,t,t,f,f,f,f,f,f,f,f,f,f,f,f,f,f,f,f,f,f,f,f,f,f,f,f,f,f,f,f,f,t,f,f,f,f,f,f,f,f,f,f,f,f,f,f,f,f,f,f,f,f]) true false) (by first | rfl | simp [mask]) (by first | rfl | simp) (by (repeat' (first | exact A0q _ | refine A0n ?_ ?_ | refine A0h ?_ ?_ | exact A0l _ | exact True.intro | (show _<_; omega) | (intro c hc; cases hc; done) | (intro c hc; simp only [List.mem_cons,List.not_mem_nil,or_false] at hc; subst hc; first | exact True.intro | (show _<_; omega)) | (intro c hc; simp only [List.mem_cons,List.not_mem_nil,or_false] at hc; rcases hc with rfl | rfl<;>first | exact True.intro | (show _<_; omega))))) (by (repeat' (first | exact A0q _ | exact A04 _ | exact A0l _ | refine And.intro ?_ ?_ | refine A0n ?_ ?_ | refine A0i ?_ ?_ | refine A0h ?_ ?_ | exact True.intro | exact A0o | exact A0j | exact A0r (by omega) | (show _<_; omega) | exact A01 (fun _=>True.intro) | (intro c hc; cases hc; done) | (intro c hc; simp only [List.mem_cons,List.not_mem_nil,or_false] at hc; subst hc; first | exact True.intro | exact A0o | exact A0j | exact A0r (by omega) | (show _<_; omega)) | (intro c hc; simp only [List.mem_cons,List.not_mem_nil,or_false] at hc; rcases hc with rfl | rfl<;>first | exact True.intro | exact A0o | exact A0j | exact A0r (by omega) | (show _<_; omega)))))) (AWp.rangeFunc (fun j H=>H=[.box [.int .i64 (n:Int),.slice (A0b es) .none],.ro [.int .i64 (n:Int),.slice (A0b es)],.box (iC d),.box (iC s),.roC [.tree (.int .i64 (n:Int)),.tree (.slice (A0b es)),.tree (.int .i64 (q:Int)),.ref 2 1 0 n n,.ref 3 1 0 n n,.tree (.int .i64 0)],.box (iC (((lnkL es v).take j).foldl (stepD v) (o,Q,p)).1),.box [.ref 5 1 0 n n],.box [.slice (A0p (zI (((lnkL es v).take j).foldl (stepD v) (o,Q,p)).2.1)) (.tail 8 (((lnkL es v).take j).foldl (stepD v) (o,Q,p)).2.2)],.chain (((lnkL es v).take j).foldl (stepD v) (o,Q,p)).2.2 1,.box [.int .i64 (v:Int)]]∧(True)) (fun _ _=>False) 10 rfl (hIk) (A43 rfl) (by omega) (by (repeat' (first | exact A0q _ | refine A0n ?_ ?_ | refine A0h ?_ ?_ | exact A0l _ | exact True.intro | (show _<_; omega) | (intro c hc; cases hc; done) | (intro c hc; simp only [List.mem_cons,List.not_mem_nil,or_false] at hc; subst hc; first | exact True.intro | (show _<_; omega)) | (intro c hc; simp only [List.mem_cons,List.not_mem_nil,or_false] at hc; rcases hc with rfl | rfl<;>first | exact True.intro | (show _<_; omega))))) (by rintro _ _ ⟨rfl,-⟩; simp [hdn,hsn,hneJ]) (fun _ _ h=>h.elim) ?_ (fun l j ts H hts hI=> ?_) (fun H hI=> ?_) (fun e H h=>h.elim))
   ·exact ⟨rfl,trivial⟩
   ·obtain ⟨rfl,-⟩:=hI
    obtain ⟨x,hx,rfl⟩:=A2H hts
    have hj:j<(lnkL es v).length:=(List.getElem?_eq_some_iff.1 hx).1
    have hxb:=hkbv x (List.mem_of_getElem? hx)
    have hnx:=B3N v (o,Q,p) hx
    have hPj:=hall j (by omega)
    have hcj:=hcn j (by omega)
    rw [List.length_cons] at hQb
    have hlj:=hPj.len
    have hbj:=hPj.bnd v hvn
    have hcn0:=hPj.vv.2
    have hqm:=hPj.qm
    generalize ((lnkL es v).take j).foldl (stepD v) (o,Q,p)=sj at*
    generalize hnj:((lnkL es v).take (j+1)).foldl (stepD v) (o,Q,p)=sj1 at*
    obtain ⟨oj,Qj,pj⟩:=sj
    obtain ⟨u,m⟩:=x
    obtain ⟨u1,u2⟩:=hxb
    obtain ⟨z,rfl⟩:=Int.eq_ofNat_of_zero_le u1
    have hzI:(z:Int)<(n:Int):=u2
    unfold stepD at hnx
    simp only [Int.toNat_natCast] at hnx hlj hbj hcj hcn0 ⊢
    have g1:=A1J (A0u (d:=oj) (i:=z) (by omega))
    have g2:=A1J (A0u (d:=oj) (i:=v) (by omega))
    have hst:=A2z oj z (oj.getD v 0+1)
    generalize oj.getD z 0=oz at*
    generalize oj.getD v 0=ov at*
    simp only [mask,A53,List.zip_cons_cons,List.zip_nil_right,List.zip_nil_left,List.foldl_cons,List.foldl_nil,List.set_cons_succ,List.set_cons_zero,ofT,A3i,A0x,List.map_cons,List.map_nil,ofT,A3i,toT,A05,A0a,A0g,A09,A5l,tG,A5E,A0m,A37]
    by_cases hneg:oz<0
    ·rw [if_pos hneg] at hnx
     have hzs:=B8u Qj z
     have hzl:=B7B Qj
     refine zRc (zc @hzI (zc @hvI (zc @g1 (zc @g2 (zc @hst (zc @hneg (zc @A0F (zc @hlj (zc @A0f (zc @A1G (zc @hzs (zc @hzl (zc @Nat.zero_add trivial))))))))))))) trivial @A1w ?_
     refine ⟨⟨_,_⟩,A0s.head2 (m:=10) (by decide) ((fun t f=>[f,f,f,f,f,f,f,f,f,f,f,f,f,f,f,f,f,f,f,f,f,f,f,f,f,f,f,f,f,f,f,f,f,f,f,f,f,f,f,f,f,f,f,f,f,f,f,f,f,f,f,f,f,f,f,f]) true false) rfl rfl (zV3 @A0o @A0j @A0r),?_,?_⟩
     ·rw [hnj,hnx]; rfl
     ·trivial
    ·rw [if_neg hneg] at hnx
     refine zR (zc @hzI (zc @g1 (zc @hneg (zc @A0F (zc @hlj (zc @Nat.zero_add trivial)))))) trivial trivial ?_
     refine ⟨⟨_,_⟩,A0s.head2 (m:=10) (by decide) ((fun t f=>[f,f,f,f,f,f,f,f,f,f,f,f,f,f,f,f,f,f,f,f,f,f,f,f,f,f,f,f,f,f,f,f,f,f,f,f,f,f,f,f,f,f,f,f,f,f,f,f,f,f,f,f,f,f,f,f]) true false) rfl rfl (zV3 @A0o @A0j @A0r),?_,?_⟩
     ·rw [hnj,hnx]; rfl
     ·trivial
   ·obtain ⟨rfl,-⟩:=hI
    rw [A2G,List.take_length]
    have hd1:=hall _ (Nat.le_refl _)
    have hc1:=hcn _ (Nat.le_refl _)
    rw [List.take_length] at hd1 hc1
    simp only [mask]
    refine zR trivial trivial trivial ?_
    refine ⟨B4l es v (o,Q,p),A0s.headN 9 56 [0,3,4] (zV3 @A0o @A0j @A0r),?_,?_⟩
    ·refine ⟨hE,hd1.done,?_⟩
     rw [List.length_cons] at hQb
     show 2*cntNeg (B4l es v (o,Q,p)).1+(B4l es v (o,Q,p)).2.1.length≤30
     have:2*cntNeg (B4l es v (o,Q,p)).1+(B4l es v (o,Q,p)).2.1.length≤2*cntNeg o+Q.length:=hc1
     omega
    ·show 2*cntNeg (B4l es v (o,Q,p)).1+(B4l es v (o,Q,p)).2.1.length<2*cntNeg o+(v::Q).length
     rw [List.length_cons]
     have:2*cntNeg (B4l es v (o,Q,p)).1+(B4l es v (o,Q,p)).2.1.length≤2*cntNeg o+Q.length:=hc1
     omega
set_option maxHeartbeats 1000000
def mulE:List E→Nat→Nat→Int
 | [],_,_=>0
 | e::es,u,v=>(if e.a≠e.b∧((e.a=u∧e.b=v)∨(e.b=u∧e.a=v)) then e.m else 0)+mulE es u v
def sizeE:List E→Int
 | []=>0
 | e::es=>(if e.a≠e.b then e.m else 0)+sizeE es
structure EsOk (n:Nat) (es:List E):Prop where
 rng: ∀e,e∈es→(0≤e.a∧e.a<n)∧(0≤e.b∧e.b<n)∧0≤e.m∧e.m≤50
theorem EsOk.tail {n:Nat} {e:E} {es:List E} (h:EsOk n (e::es)):EsOk n es:=⟨fun x hx=>h.rng x (by simp [hx])⟩
theorem A94: ∀(es:List E) (u v:Nat),mulE es u v=mulE es v u
 | [],_,_=>rfl
 | e::es,u,v=>by
  unfold mulE
  rw [A94 es u v]
  congr 1
  by_cases h:e.a≠e.b∧((e.a=u∧e.b=v)∨(e.b=u∧e.a=v))
  ·rw [if_pos h,if_pos ⟨h.1,h.2.elim (fun q=> .inr ⟨q.2,q.1⟩) (fun q=> .inl ⟨q.2,q.1⟩)⟩]
  ·rw [if_neg h,if_neg (fun q=>h ⟨q.1,q.2.elim (fun q=> .inr ⟨q.2,q.1⟩) (fun q=> .inl ⟨q.2,q.1⟩)⟩)]
theorem A7g: ∀(es:List E) (v:Nat),mulE es v v=0
 | [],_=>rfl
 | e::es,v=>by
  unfold mulE
  rw [A7g es v,if_neg (fun q=>by rcases q with ⟨q1,q2 | q2⟩<;>exact q1 (by omega))]; rfl
theorem A17 {n:Nat}: ∀{es:List E},EsOk n es→ ∀(u v:Nat),0≤mulE es u v
 | [],_,_,_=>Int.le_refl _
 | e::es,h,u,v=>by
  have:=A17 h.tail u v
  have:=h.rng e (by simp)
  unfold mulE
  split<;>omega
theorem B1T {n:Nat}: ∀{es:List E},EsOk n es→ ∀{e:E},e∈es→e.a≠e.b→ ∀{u v:Nat},(e.a=u∧e.b=v)∨(e.b=u∧e.a=v)→e.m≤mulE es u v
 | [],_,e,he,_,_,_,_=>by cases he
 | x::es,h,e,he,hne,u,v,huv=>by
  have h1:=A17 h.tail u v
  have h2:=h.rng x (by simp)
  unfold mulE
  rcases List.mem_cons.1 he with rfl | he
  ·rw [if_pos ⟨hne,huv⟩]; omega
  ·have:=B1T h.tail he hne huv
   split<;>omega
theorem A95 (p:Int→Bool): ∀l:List (Int×Int),∀a:Int,l.foldl (fun a x=>if p x.1=true then a+x.2 else a) a=a+joinL p l
 | [],a=>by simp [joinL]
 | x::l,a=>by
  unfold joinL
  rw [List.foldl_cons,List.foldl_cons,A95 p l,A95 p l]
  split<;>omega
theorem A4L (p:Int→Bool) (x:Int×Int) (l:List (Int×Int)):joinL p (x::l)=(if p x.1=true then x.2 else 0)+joinL p l:=by
 conv=>lhs; unfold joinL
 rw [List.foldl_cons,A95]
 split<;>omega
theorem A3A {n:Nat} (p:Int→Bool) (u:Nat): ∀{es:List E},EsOk n es→joinL p (lnkL es u)=sumR (fun v=>if p (v:Int)=true then mulE es u v else 0) n
 | [],_=>by rw [A0M fun v _=>by simp [mulE]]; rfl
 | e ::es,h=>by
  have ih:=A3A p u h.tail
  have hr:=h.rng e (by simp)
  have e1:lnkL (e::es) u=(B4f u e).toList++lnkL es u:=by
   unfold lnkL; rw [List.filterMap_cons]; cases B4f u e<;>rfl
  have e2:sumR (fun v=>if p (v:Int)=true then mulE (e::es) u v else 0) n=sumR (fun v=>if p (v:Int)=true then (if e.a≠e.b∧((e.a=u∧e.b=v)∨(e.b=u∧e.a=v)) then e.m else 0) else 0) n+sumR (fun v=>if p (v:Int)=true then mulE es u v else 0) n:=by
   rw [←A1g]
   refine A0k fun v _=> ?_
   split
   ·rfl
   ·rfl
  rw [e1,e2,←ih]
  unfold B4f
  by_cases hc:e.a≠e.b∧(e.a=u∨e.b=u)
  ·rw [if_pos hc,Option.toList_some,List.cons_append,List.nil_append,A4L]
   congr 1
   simp only
   obtain ⟨w,hw⟩: ∃w:Nat,e.a+e.b-u=(w:Int):=Int.eq_ofNat_of_zero_le (by rcases hc.2 with q | q<;>omega)
   have hwn:w<n:=by rcases hc.2 with q | q<;>omega
   rw [hw]
   have:sumR (fun v=>if p (v:Int)=true then (if e.a≠e.b∧((e.a=u∧e.b=v)∨(e.b=u∧e.a=v)) then e.m else 0) else 0) n=sumR (fun v=>if v=w then (if p (w:Int)=true then e.m else 0) else 0) n:=A0k fun v _=>by
    by_cases hv:v=w
    ·subst hv
     rw [if_pos rfl]
     have:e.a≠e.b∧((e.a=u∧e.b=(v:Int))∨(e.b=u∧e.a=(v:Int))):=⟨hc.1,by rcases hc.2 with q | q; exact .inl ⟨q,by omega⟩; exact .inr ⟨q,by omega⟩⟩
     rw [if_pos this]
    ·rw [if_neg hv]
     have: ¬(e.a≠e.b∧((e.a=u∧e.b=(v:Int))∨(e.b=u∧e.a=(v:Int)))):=fun q=>hv (by rcases q.2 with q | q<;>omega)
     rw [if_neg this]; simp
   rw [this,A0L _ w hwn]
  ·rw [if_neg hc,Option.toList_none,List.nil_append,A0M fun v _=> ?_]
   ·omega
   ·have hC: ¬(e.a≠e.b∧((e.a=u∧e.b=(v:Int))∨(e.b=u∧e.a=(v:Int)))):=fun q=>hc ⟨q.1,q.2.elim (fun q=> .inl q.1) (fun q=> .inr q.1)⟩
    rw [if_neg hC]; split<;>rfl
theorem A3U {n:Nat}: ∀{es:List E},EsOk n es→ ∀(u:Nat),sumR (mulE es u) n≤sizeE es
 | [],_,u=>by rw [A0M (f:=mulE [] u) fun v _=>rfl]; exact Int.le_refl _
 | e ::es,h,u=>by
  have ih:=A3U h.tail u
  have hr:=h.rng e (by simp)
  have e2:sumR (mulE (e::es) u) n=sumR (fun v=>if e.a≠e.b∧((e.a=u∧e.b=v)∨(e.b=u∧e.a=v)) then e.m else 0) n+sumR (mulE es u) n:=by
   rw [←A1g]; exact A0k fun v _=>rfl
  have e3:sumR (fun v=>if e.a≠e.b∧((e.a=u∧e.b=v)∨(e.b=u∧e.a=v)) then e.m else 0) n≤if e.a≠e.b then e.m else 0:=by
   by_cases hne:e.a≠e.b
   ·rw [if_pos hne]
    obtain ⟨w,hw⟩: ∃w:Nat,(if e.a=u then e.b else e.a)=(w:Int):=Int.eq_ofNat_of_zero_le (by split<;>omega)
    have hwn:w<n:=by split at hw<;>omega
    refine Int.le_trans (A1s (g:=fun v=>if v=w then e.m else 0) fun v _=> ?_) (Int.le_of_eq (A0L e.m w hwn))
    by_cases hv:e.a≠e.b∧((e.a=u∧e.b=(v:Int))∨(e.b=u∧e.a=(v:Int)))
    ·rw [if_pos hv]
     have:v=w:=by split at hw<;>(rcases hv.2 with q | q<;>omega)
     rw [if_pos this]; exact Int.le_refl _
    ·rw [if_neg hv]; split<;>omega
   ·rw [if_neg hne,A0M fun v _=>if_neg fun q=>hne q.1]; exact Int.le_refl _
  have hs:sizeE (e::es)=(if e.a≠e.b then e.m else 0)+sizeE es:=rfl
  rw [hs]
  omega
theorem B0C {n:Nat}: ∀{es:List E},EsOk n es→twoE n (mulE es)=2*sizeE es
 | [],_=>by unfold twoE; rw [A0M (f:=fun v=>sumR (mulE [] v) n) fun v _=>A0M (f:=mulE [] v) fun u _=>rfl]; rfl
 | e ::es,h=>by
  have ih:=B0C h.tail
  have hr:=h.rng e (by simp)
  have e2:twoE n (mulE (e::es))=sumR (fun u=>sumR (fun v=>if e.a≠e.b∧((e.a=u∧e.b=v)∨(e.b=u∧e.a=v)) then e.m else 0) n) n+twoE n (mulE es):=by
   unfold twoE
   rw [←A1g]
   refine A0k fun u _=> ?_
   rw [←A1g]; exact A0k fun v _=>rfl
  have hs:sizeE (e::es)=(if e.a≠e.b then e.m else 0)+sizeE es:=rfl
  rw [e2,ih,hs]
  by_cases hne:e.a≠e.b
  ·rw [if_pos hne]
   obtain ⟨a,ha⟩:=Int.eq_ofNat_of_zero_le hr.1.1
   obtain ⟨b,hb⟩:=Int.eq_ofNat_of_zero_le hr.2.1.1
   have hab:a≠b:=by rintro rfl; exact hne (by omega)
   have e4:sumR (fun u=>sumR (fun v=>if e.a≠e.b∧((e.a=u∧e.b=v)∨(e.b=u∧e.a=v)) then e.m else 0) n) n=sumR (fun u=>(if u=a then e.m else 0)+if u=b then e.m else 0) n:=A0k fun u _=>by
    by_cases h1:u=a
    ·have:sumR (fun v=>if e.a≠e.b∧((e.a=u∧e.b=v)∨(e.b=u∧e.a=v)) then e.m else 0) n=sumR (fun v=>if v=b then e.m else 0) n:=A0k fun v _=>by
      by_cases hv:v=b
      ·rw [if_pos hv,if_pos ⟨hne,.inl ⟨by omega,by omega⟩⟩]
      ·rw [if_neg hv,if_neg (fun q=>by rcases q.2 with q | q<;>omega)]
     rw [this,A0L _ b (by omega),if_pos h1,if_neg (by omega)]; omega
    ·by_cases h2:u=b
     ·have:sumR (fun v=>if e.a≠e.b∧((e.a=u∧e.b=v)∨(e.b=u∧e.a=v)) then e.m else 0) n=sumR (fun v=>if v=a then e.m else 0) n:=A0k fun v _=>by
       by_cases hv:v=a
       ·rw [if_pos hv,if_pos ⟨hne,.inr ⟨by omega,by omega⟩⟩]
       ·rw [if_neg hv,if_neg (fun q=>by rcases q.2 with q | q<;>omega)]
      rw [this,A0L _ a (by omega),if_neg h1,if_pos h2]; omega
     ·rw [A0M fun v _=>if_neg (fun q=>by rcases q.2 with q | q<;>omega),if_neg h1,if_neg h2]; rfl
   rw [e4,A1g,A0L _ a (by omega),A0L _ b (by omega)]; omega
  ·rw [if_neg hne,A0M fun u _=>A0M fun v _=>if_neg fun q=>hne q.1]; omega
theorem B8y {g:G} {n:Nat} (hc:checkG g=0) (hn:g.n=n) (hcon:connB g=true):EsOk n g.es∧Mult n (mulE g.es):=by
 have h:=A02.1 hc
 have hE:EsOk n g.es:=⟨fun e he=>by have:=h.2.1 e he; unfold okE at this; omega⟩
 refine ⟨hE,A94 _,A17 hE,A7g _,fun S hS hS'=> ?_⟩
 obtain ⟨a,ha,hSa⟩:=hS
 obtain ⟨b,hb,hSb⟩:=hS'
 rw [A6z hc hn,decide_eq_true_eq] at hcon
 have hab:=B6O (B6N n _) hcon ha hb
 refine Classical.byContradiction fun hx=> ?_
 have key: ∀{x y:Nat},Conn (endsL g.es) x y→S x=true→S y=true:=fun {x y} hxy=>by
  induction hxy with
  | refl=>exact id
  | step hp hs ih=>
   rename_i y z
   intro hx1
   have hy:=ih hx1
   refine Classical.byContradiction fun hz=>hx ?_
   rw [Bool.not_eq_true] at hz
   obtain ⟨e,he,hye⟩: ∃e,e∈g.es∧((e.a=y∧e.b=z)∨(e.b=y∧e.a=z)):=by
    rcases hs with hs | hs
    ·obtain ⟨e,he,q⟩:=A36 hs
     have q1:=congrArg Prod.fst q
     have q2:=congrArg Prod.snd q
     exact ⟨e,he,.inl ⟨by simpa using q1.symm,by simpa using q2.symm⟩⟩
    ·obtain ⟨e,he,q⟩:=A36 hs
     have q1:=congrArg Prod.fst q
     have q2:=congrArg Prod.snd q
     exact ⟨e,he,.inr ⟨by simpa using q2.symm,by simpa using q1.symm⟩⟩
   have hr:=h.2.1 e he
   unfold okE at hr
   have hne:e.a≠e.b:=by
    intro q
    have:y=z:=by rcases hye with q2 | q2<;>omega
    rw [this,hz] at hy; cases hy
   refine ⟨y,z,by rcases hye with q | q<;>omega,by rcases hye with q | q<;>omega,hy,hz,?_⟩
   have:=B1T hE he hne hye
   omega
 rw [key hab hSa] at hSb; cases hSb
end Go.Proofs.Ytdhfgihnoimoaaa
