/- A part of the proof. -/
import Derived.Test.YtdhfgihnoimoaaaLayerC
import Derived.Test.YtdhfgihnoimoaaaPart33
import Derived.Test.YtdhfgihnoimoaaaPart08
set_option linter.all false
set_option maxHeartbeats 4000000
set_option maxRecDepth 100000
namespace Go.Proofs.Ytdhfgihnoimoaaa
open Go.Sp
def A4R (l:List Int):Nat→Int
 | 0=>l.getD 0 0
 | k+1=>max (A4R l k) (l.getD (k+1) 0)
theorem A5V (l:List Int): ∀k i,i≤k→l.getD i 0≤A4R l k
 | 0,i,h=>by rw [show i=0 by omega]; exact Int.le_refl _
 | k+1,i,h=>by
  unfold A4R
  by_cases e:i=k+1
  ·subst e; omega
  ·have:=A5V l k i (by omega); omega
theorem A98 (l:List Int): ∀k,∃i,i≤k∧A4R l k=l.getD i 0
 | 0=>⟨0,Nat.le_refl _,rfl⟩
 | k+1=>by
  obtain ⟨i,h1,h2⟩:=A98 l k
  unfold A4R
  rcases Int.le_total (A4R l k) (l.getD (k+1) 0) with h | h
  ·exact ⟨k+1,Nat.le_refl _,by omega⟩
  ·exact ⟨i,by omega,by omega⟩
theorem B9o (l:List Int) (hne:l≠[]) (hl:l.length<2^40):ACall Try.prog 107 [A0m l] (A0g (A4R l (l.length-1))):=by
 have hp:0<l.length:=List.length_pos_iff.2 hne
 have e0:=List.getElem?_eq_getElem hp
 have r0:=A0P e0
 have d0:l.getD 0 0=l[0]:=by rw [List.getD_eq_getElem?_getD,e0]; rfl
 generalize l[0]=x0 at*
 refine ACall.of_body Try.func107 rfl (by kernel_rfl) ?_
 simp only [entry,Try.ntmps107,A0m]
 refine zU ?_
 refine zR (zc @A0f (zc @r0 (zc @Int.toNat_zero trivial))) trivial trivial ?_
 have hx0:x0=A4R l 0:=d0.symm
 rw [hx0]
 refine AWp.loopS (α:=Nat) 25 (fun i=>[(0,.c (.slice (A0p l) .none)),(3,.c (.int .i64 (A4R l i))),(4,.c (.int .i64 ((i:Int)+1)))]) (fun i=>[]) (fun i=>i<l.length) (fun i=>l.length-i) (0) (hk:=A0s.headL 0 25 [0,3,4] (zV3 @A0o @A0j @A0r)) (h0:=?_) (round:=fun i hI=>?_)
 ·exact hp
 ·by_cases hlt:i+1<l.length
  ·have hltI:(i:Int)+1<l.length:=by omega
   have e1:=List.getElem?_eq_getElem hlt
   have r1:=A0P e1
   have d1:l.getD (i+1) 0=l[i+1]:=by rw [List.getD_eq_getElem?_getD,e1]; rfl
   have hnx:A4R l (i+1)=max (A4R l i) (l.getD (i+1) 0):=rfl
   rw [d1] at hnx
   have ht:((i:Int)+1).toNat=i+1:=by omega
   generalize l[i+1]=y at*
   generalize A4R l i=m at*
   refine zR (zc @hltI (zc @A0f (zc @r1 (zc @ht trivial)))) trivial trivial ?_
   refine ⟨i+1,A0s.headF 0 25 [0,3,4] (zc @hnx trivial) (zV3 @A0o @A0j @A0r),?_,?_⟩
   ·omega
   ·omega
  ·have ei:A4R l (l.length-1)=A4R l i:=by congr 1; omega
   have hnl: ¬((i:Int)+1<l.length):=by omega
   rw [ei]
   refine zR (zc @hnl (zc @A0f trivial)) trivial trivial ?_
   simp [A0E,A0C,Blk.cells,ty,Try.results107,A0y,A05,toT,A0e,A0c,A0d,A0a,A0g]
theorem A6J (n q:Nat) (es:List E) (d s:List Int) (h1:1≤n) (h12:n≤12) (hq:q<n) (hd:d.length=n) (hs:s.length=n) (hl:es.length≤40) (hm: ∀e,e∈es→(0≤e.a∧e.a<n)∧(0≤e.b∧e.b<n)∧0≤e.m∧e.m≤50) (B:List Int) (pB:Nat) (hB:DEnd es (A6W n q,[q],0) B pB) (hBl:B.length=n):
  ACallH Try.prog 105 [.box [.int .i64 (n:Int),.slice (A0b es) .none],.ro [.int .i64 (n:Int),.slice (A0b es)],.box (iC d),.box (iC s),.roC [.tree (.int .i64 (n:Int)),.tree (.slice (A0b es)),.tree (.int .i64 (q:Int)),.ref 2 1 0 n n,.ref 3 1 0 n n,.tree (.int .i64 0)]] [.c (.ptr 4 0)] [.box [.int .i64 (n:Int),.slice (A0b es) .none],.ro [.int .i64 (n:Int),.slice (A0b es)],.box (iC d),.box (iC s),.roC [.tree (.int .i64 (n:Int)),.tree (.slice (A0b es)),.tree (.int .i64 (q:Int)),.ref 2 1 0 n n,.ref 3 1 0 n n,.tree (.int .i64 0)]] (.c (.slice (A0p B) .none)):=
 ((A93 n q es d s h1 h12 hq hd hs hl hm B pB hB hBl).trim (by simp) (show 5<6 by decide) (fun b hb=>by
  rcases List.mem_append.1 hb with hb | hb
  ·exact B0A n q es d s (m:=6) (by decide) b hb
  ·rw [List.mem_singleton] at hb; subst hb; exact A0o)).data (Nat.le_refl _) (B0A n q es d s (m:=5) (by decide)) (B6z B) (by rw [A0f,hBl]) (Nat.le_refl _) (fun r hr=>A1w hr) (B4J B)
def A5W (far:List Int) (k:Int) (n i:Nat):List Bool:=(List.range n).map fun v=>decide (v<i)&&decide (far.getD v 0<k)
theorem B0L (far:List Int) (k:Int) (n i:Nat):(A5W far k n i).length=n:=by simp [A5W]
theorem A8i (far:List Int) (k:Int) (n i v:Nat):(A5W far k n i)[v]? =if v<n then some (decide (v<i)&&decide (far.getD v 0<k)) else none:=by
 unfold A5W
 rw [List.getElem?_map]
 by_cases h:v<n
 ·rw [if_pos h,List.getElem?_range h]; rfl
 ·rw [if_neg h,List.getElem?_eq_none (by simpa using h)]; rfl
theorem B53 (far:List Int) (k:Int) {n i:Nat} (hi:i<n):(A5W far k n i).set i (decide (far.getD i 0<k))=A5W far k n (i+1):=by
 apply List.ext_getElem?
 intro j
 rw [List.getElem?_set,B0L,A8i,A8i]
 by_cases e:i=j
 ·subst e
  rw [if_pos rfl,if_pos hi,if_pos hi,decide_eq_true (show i<i+1 by omega)]; rfl
 ·rw [if_neg e]
  by_cases h:j<n
  ·rw [if_pos h,if_pos h,decide_eq_decide.2 (show j<i↔j<i+1 by omega)]
  ·rw [if_neg h,if_neg h]
theorem B3R (far:List Int) (k:Int) (n:Nat):A5W far k n 0=List.replicate n false:=by
 apply List.ext_getElem
 ·simp [A5W]
 ·intro i h1 h2; simp [A5W]
theorem B54 (far:List Int) (k:Int) {n:Nat} (hn:far.length=n):A5W far k n n=A15 far k:=by
 apply List.ext_getElem?
 intro j
 rw [A8i]
 unfold A15
 rw [List.getElem?_map]
 by_cases h:j<n
 ·rw [if_pos h,List.getD_eq_getElem?_getD,List.getElem?_eq_getElem (show j<far.length by omega),decide_eq_true h]; rfl
 ·rw [if_neg h,List.getElem?_eq_none (by omega)]; rfl
theorem A99 {n:Nat}: ∀{es:List E},EsOk n es→sizeE es≤50*es.length
 | [],_=>by simp [sizeE]
 | e::es,h=>by
  have:=A99 h.tail
  have:=h.rng e (by simp)
  unfold sizeE
  rw [List.length_cons]
  split<;>omega
theorem B6X (n q:Nat) (es:List E) (d s:List Int) (h1:1≤n) (h12:n≤12) (hq:q<n) (hl:es.length≤40) (hE:EsOk n es) (hm1: ∀e,e∈es→1≤e.m) (far:List Int) (pB:Nat) (hB:DEnd es (A6W n q,[q],0) far pB) (hf:BFq es n q far []) (d0:List Int) (X Z:Int) (hX:0≤X) (hZ:1≤Z) (hsz:sizeE es≤Z) (hP:powZ Z X (n-1)≤2097152) (hL:LInv n es far d0 (n-1:Nat) X (d,s)) (W:List Int×List Int) (hW:B1V n es far (A4R far (n-1)).toNat (d,s)=W):
  ACallH Try.prog 89 [.box [.int .i64 (n:Int),.slice (A0b es) .none],.ro [.int .i64 (n:Int),.slice (A0b es)],.box (iC d),.box (iC s),.roC [.tree (.int .i64 (n:Int)),.tree (.slice (A0b es)),.tree (.int .i64 (q:Int)),.ref 2 1 0 n n,.ref 3 1 0 n n,.tree (.int .i64 0)]] [.c (.ptr 4 0)] [.box [.int .i64 (n:Int),.slice (A0b es) .none],.ro [.int .i64 (n:Int),.slice (A0b es)],.box (iC W.1),.box (iC W.2),.roC [.tree (.int .i64 (n:Int)),.tree (.slice (A0b es)),.tree (.int .i64 (q:Int)),.ref 2 1 0 n n,.ref 3 1 0 n n,.tree (.int .i64 0)]] (.tup []):=by
 have hm:=hE.rng
 have hd:=hL.dl
 have hs:=hL.sl
 simp only at hd hs
 have hfl:=hf.len
 have hfb: ∀v,v<n→ -1≤far.getD v 0∧far.getD v 0≤n-1:=fun v hv=>by have:=hf.bnd v hv; omega
 obtain ⟨i0,hi0,hmx⟩:=A98 far (n-1)
 have hmx0:=A5V far (n-1) q (by omega)
 rw [hf.q0] at hmx0
 have hmxb:=hfb i0 (by omega)
 have hDi:=A6J n q es d s h1 h12 hq hd hs hl hm far pB hB hfl
 have hMx:=B9o far (by intro e; rw [e] at hfl; simp at hfl; omega) (by omega)
 rw [hfl] at hMx
 obtain ⟨k9,hk9⟩:=Int.eq_ofNat_of_zero_le hmx0
 have hKn:k9≤n-1:=by omega
 rw [hk9] at hMx
 rw [hk9,Int.toNat_natCast] at hW
 have hLK:LInv n es far d0 k9 X (d,s):=⟨hd,hs,hL.led,hL.db,hL.sb,hL.sp,fun v hv hk=>by
  have:=A5V far (n-1) v (by omega); omega⟩
 clear hL hmx hmx0
 have hPK:powZ Z X k9≤2097152:=by
  have key: ∀(a:Nat) {X:Int},0≤X→ ∀b,powZ Z X a≤powZ Z X (a+b):=fun a=>by
   induction a with
   | zero=>intro X hX b; rw [Nat.zero_add]; exact A60 (by omega) b hX
   | succ a ih=>
    intro X hX b
    rw [show a+1+b=(a+b)+1 by omega]
    unfold powZ
    exact ih (by have:=Int.mul_nonneg (show 0≤Z by omega) hX; omega) b
  have:=key k9 hX (n-1-k9)
  rw [show k9+(n-1-k9)=n-1 by omega] at this
  omega
 have hkb: ∀(v:Nat) u k,(u,k)∈lnkL es v→ ∃w:Nat,u=w∧w<n:=fun v u k hx=>by
  obtain ⟨e,he,e1,_,e2⟩:=A2u hx
  have:=hm e he
  simp only at e2
  exact ⟨u.toNat,by omega,by omega⟩
 have hJ: ∀(d s:List Int) (R:List Bool) (v:Nat),d.length=n→s.length=n→R.length=n→v<n→ACallH Try.prog 108 [.box [.int .i64 (n:Int),.slice (A0b es) .none],.ro [.int .i64 (n:Int),.slice (A0b es)],.box (iC d),.box (iC s),.roC [.tree (.int .i64 (n:Int)),.tree (.slice (A0b es)),.tree (.int .i64 (q:Int)),.ref 2 1 0 n n,.ref 3 1 0 n n,.tree (.int .i64 0)],.box (bC R),.box [.ref 5 1 0 n n]] [.c (.ptr 4 0),.c (.int .i64 (v:Int)),.c (.fn 109 [.ptr 6 0])] [.box [.int .i64 (n:Int),.slice (A0b es) .none],.ro [.int .i64 (n:Int),.slice (A0b es)],.box (iC d),.box (iC s),.roC [.tree (.int .i64 (n:Int)),.tree (.slice (A0b es)),.tree (.int .i64 (q:Int)),.ref 2 1 0 n n,.ref 3 1 0 n n,.tree (.int .i64 0)],.box (bC R),.box [.ref 5 1 0 n n]] (.c (.int .i64 (jnB es R v))):=fun d s R v hd hs hR hv=>
  B05 n q es d s R (by intro e; rw [e] at hd; simp at hd; omega) (by intro e; rw [e] at hs; simp at hs; omega) (by intro e; rw [e] at hR; simp at hR; omega) (by omega) (fun e he=>by have:=hm e he; omega) v (by omega) _ _ fun X u k hx=>by
   obtain ⟨w,rfl,hw⟩:=hkb v u k hx
   exact B9i n R hR rfl rfl w hw
 clear hDi
 have hDi:=A6J n q es d s h1 h12 hq hd hs hl hm far pB hB hfl
 refine ACallH.of_body Try.func89 rfl (by kernel_rfl) ?_
 simp only [entry,Try.ntmps89,List.length_cons,List.length_nil,Nat.reduceAdd,Nat.reduceSub,List.replicate_succ,List.replicate_zero,List.cons_append,List.nil_append]
 repeat' (first|((with_reducible refine AWp.seq (AWp.of_reg (id:=1) (AReg.pre 1 (fun K hK=>?_))));simp only [List.take_succ_cons,List.take_zero])|((with_reducible refine AWp.of_reg (id:=1) (AReg.pre 1 (fun K hK=>?_)));simp only [List.take_succ_cons,List.take_zero])|((first|(refine zT ?_;intro K' hK')|(refine zG ?_ ?_<;>(try refine zH ?_)<;>intro hguard<;>(try exact zX)<;>try intro K' hK'))<;>((try simp+contextual only [go_sem]);(repeat' first|(with_reducible refine hK' _ _ ?_;clear hK' K')|((with_reducible first|refine ⟨_,_,hDi,?_⟩|refine ⟨_,hDi,?_⟩);try simp+contextual only [go_sem])|exact zY|with_reducible refine And.intro ?_ ?_|(with_reducible intro hpath;try exact zP)|(refine hK' _ _ ?_;clear hK' K')|fail);try refine zS ?_))|(refine zE ?_;refine hK _ _ ?_;clear hK K)|(refine zN ?_;try refine zS ?_)|refine zA ?_|(refine zB ?_;intro K hK)|(refine zC ?_ ?_<;>(try refine zH ?_)<;>intro hcond<;>try exact zX)|fail)
 simp only [List.drop_succ_cons,List.drop_zero]
 refine AReg.step (rv:= .c (.bfn 106 [.ptr 4 0])) (H':=[.box [.int .i64 (n:Int),.slice (A0b es) .none],.ro [.int .i64 (n:Int),.slice (A0b es)],.box (iC d),.box (iC s),.roC [.tree (.int .i64 (n:Int)),.tree (.slice (A0b es)),.tree (.int .i64 (q:Int)),.ref 2 1 0 n n,.ref 3 1 0 n n,.tree (.int .i64 0)]]) rfl rfl (B0s _ _ rfl _ rfl) ?_
 refine AReg.rest (fun K hK=> ?_)
 repeat' ((fail_if_success (with_reducible refine AWp.atSeq 99 ?_));(fail_if_success (with_reducible refine AWp.atLast 99 ?_));first|((first|(refine zT ?_;intro K' hK')|(refine zG ?_ ?_<;>(try refine zH ?_)<;>intro hguard<;>(try exact zX)<;>try intro K' hK'))<;>((try simp+contextual only [go_sem]);(repeat' first|(with_reducible refine hK' _ _ ?_;clear hK' K')|(with_reducible refine zK hMx ?_;try simp+contextual only [go_sem])|exact zY|with_reducible refine And.intro ?_ ?_|(with_reducible intro hpath;try exact zP)|(refine hK' _ _ ?_;clear hK' K')|fail);try refine zS ?_))|(refine zE ?_;refine hK _ _ ?_;clear hK K)|(refine zN ?_;try refine zS ?_)|refine zA ?_|(refine zB ?_;intro K hK)|(refine zC ?_ ?_<;>(try refine zH ?_)<;>intro hcond<;>try exact zX)|fail)
 refine AWp.loopS (α:=(Nat×(List Int×List Int))) 95 (fun w=>[(0,.c (.ptr 4 0)),(2,.c (.slice (A0p far) .none)),(3,.c (.bfn 106 [.ptr 4 0])),(4,.c (.int .i64 (w.1:Int)))]) (fun w=>[.box [.int .i64 (n:Int),.slice (A0b es) .none],.ro [.int .i64 (n:Int),.slice (A0b es)],.box (iC w.2.1),.box (iC w.2.2),.roC [.tree (.int .i64 (n:Int)),.tree (.slice (A0b es)),.tree (.int .i64 (q:Int)),.ref 2 1 0 n n,.ref 3 1 0 n n,.tree (.int .i64 0)]]) (fun w=>w.1≤n-1∧B1V n es far w.1 w.2=W∧ ∃Y:Int,0≤Y∧powZ Z Y w.1≤2097152∧LInv n es far d0 w.1 Y w.2) (fun w=>w.1) ((k9,(d,s))) (hk:=A0s.headL 5 95 [0,2,3,4] (zV3 @A0o @A0j @A0r)) (h0:=?_) (round:=fun w hI=>?_)
 ·exact ⟨hKn,hW,X,hX,hPK,hLK⟩
 ·clear hW hPK hLK hX hP hDi hd hs
  obtain ⟨k,d,s⟩:=w
  obtain ⟨hkn,hW,Y,hY,hPk,hLk⟩:=hI
  simp only at hkn hW hPk hLk ⊢
  have hd:=hLk.dl
  have hs:=hLk.sl
  simp only at hd hs
  cases k with
  | zero=>
   have eW:(d,s)=W:=hW
   subst eW
   refine zR trivial trivial trivial ?_
   simp [A2W,A1M,A0y,A1L,Try.results89]
  | succ k=>
   have hkp:((k+1:Nat):Int)>0:=by omega
   have hk0:(0:Int)<((k+1:Nat):Int):=by omega
   obtain ⟨hst,hT0,hTY⟩:=hLk.step hE hm1 hf (by omega) hY hZ hsz
   simp only at hst hT0 hTY
   have hPk':powZ Z (Y+Z*Y) k≤2097152:=hPk
   have hY1:0≤Y+Z*Y:=by have:=Int.mul_nonneg (show 0≤Z by omega) hY; omega
   have hYb:=A60 (show 0≤Z by omega) k hY1
   have hjp: ∀v,v<n→far.getD v 0=((k+1:Nat):Int)→1≤jnB es (A15 far ((k+1:Nat):Int)) v:=fun v hv=>B2L hE hm1 hf (by omega) hv
   have hZY:0≤Z*Y:=Int.mul_nonneg (by omega) hY
   have hN:A15 far ((k:Int)+1)=A15 far ((k+1:Nat):Int):=rfl
   have hnll:(A15 far ((k+1:Nat):Int)).length=n:=by rw [B50,hfl]
   refine zR (zc @hk0 (zc @A2J (zc @Nat.zero_add trivial))) trivial trivial ?_
   rw [←B3R far ((k+1:Nat):Int) n]
   refine AWp.loopS (α:=Nat) 95 (fun i=>[(0,.c (.ptr 4 0)),(2,.c (.slice (A0p far) .none)),(3,.c (.bfn 106 [.ptr 4 0])),(4,.c (.int .i64 ((k+1:Nat):Int))),(5,.c (.ptr 6 0)),(35,.c (.int .i64 (n:Int))),(36,.c (.int .i64 (i:Int)))]) (fun i=>[.box [.int .i64 (n:Int),.slice (A0b es) .none],.ro [.int .i64 (n:Int),.slice (A0b es)],.box (iC d),.box (iC s),.roC [.tree (.int .i64 (n:Int)),.tree (.slice (A0b es)),.tree (.int .i64 (q:Int)),.ref 2 1 0 n n,.ref 3 1 0 n n,.tree (.int .i64 0)],.box (bC (A5W far ((k+1:Nat):Int) n i)),.box [.ref 5 1 0 n n]]) (fun i=>i≤n) (fun i=>n-i) (0) (hk:=A0s.headL 7 95 [0,2,3,4,5,35,36] (zV3 @A0o @A0j @A0r)) (h0:=?_) (round:=fun i hI=>?_)
   ·exact Nat.zero_le _
   ·have hi:i≤n:=hI
    clear hI
    by_cases hil:i<n
    ·have hiI:(i:Int)<(n:Int):=by omega
     have hg:=A0P (A0u (d:=far) (i:=i) (by omega))
     have hns:=B53 far ((k+1:Nat):Int) hil
     have hnl:=B0L far ((k+1:Nat):Int) n i
     have hbs:=A4W (A5W far ((k+1:Nat):Int) n i) i (decide (far.getD i 0<((k+1:Nat):Int)))
     rw [hns] at hbs
     generalize hn1:A5W far ((k+1:Nat):Int) n (i+1)=N1 at*
     generalize A5W far ((k+1:Nat):Int) n i=N0 at*
     generalize far.getD i 0=fi at*
     generalize ((k+1:Nat):Int)=kk at*
     refine zR (zc @hiI (zc @hg (zc @hbs (zc @A1z (zc @hnl (zc @A0f (zc @hfl (zc @Nat.zero_add trivial)))))))) trivial trivial ?_
     refine ⟨i+1,A0s.headF 7 95 [0,2,3,4,5,35,36] (zc @hn1 trivial) (zV3 @A0o @A0j @A0r),?_,?_⟩
     ·exact hil
     ·omega
    ·have hnl: ¬(i:Int)<(n:Int):=by omega
     have ei:i=n:=by omega
     rw [ei]
     rw [ei] at hnl
     rw [B54 far _ hfl]
     refine zR (zc @hnl (zc @A0f (zc @hfl trivial))) trivial trivial ?_
     refine AWp.loopS (α:=Nat) 95 (fun v=>[(0,.c (.ptr 4 0)),(2,.c (.slice (A0p far) .none)),(3,.c (.bfn 106 [.ptr 4 0])),(4,.c (.int .i64 ((k+1:Nat):Int))),(5,.c (.ptr 6 0)),(7,.c (.int .i64 (A1v es far d ((k+1:Nat):Int) v))),(49,.c (.slice (A0p far) .none)),(50,.c (.int .i64 (n:Int))),(51,.c (.int .i64 (v:Int)))]) (fun v=>[.box [.int .i64 (n:Int),.slice (A0b es) .none],.ro [.int .i64 (n:Int),.slice (A0b es)],.box (iC d),.box (iC s),.roC [.tree (.int .i64 (n:Int)),.tree (.slice (A0b es)),.tree (.int .i64 (q:Int)),.ref 2 1 0 n n,.ref 3 1 0 n n,.tree (.int .i64 0)],.box (bC (A15 far ((k+1:Nat):Int))),.box [.ref 5 1 0 n n]]) (fun v=>v≤n) (fun v=>n-v) (0) (hk:=A0s.headL 7 95 [0,2,3,4,5,7,49,50,51] (zV3 @A0o @A0j @A0r)) (h0:=?_) (round:=fun v hI=>?_)
     ·exact Nat.zero_le _
     ·have hv:v≤n:=hI
      clear hI
      by_cases hvl:v<n
      ·have hvI:(v:Int)<(n:Int):=by omega
       have hg:=A0P (A0u (d:=far) (i:=v) (by omega))
       have hds:=A1J (A0u (d:=d) (i:=v) (by omega))
       have hJv:=hJ d s (A15 far ((k+1:Nat):Int)) v hd hs hnll hvl
       have hT:=A3e es far d ((k+1:Nat):Int) v
       have hTv:=A8h hLk.db hY v fun u hu=>hjp u (by omega)
       have hTv0:=A3W es far d ((k+1:Nat):Int) v
       have hj1:=hjp v hvl
       have hsz2:=A99 hE
       have hj2:=B9m hE (A15 far ((k+1:Nat):Int)) v
       have hdb:=hLk.db v
       simp only at hdb hTv
       clear hst hTY hT0
       generalize ((k+1:Nat):Int)=kk at*
       generalize jnB es (A15 far kk) v=jv at*
       generalize hnx:A1v es far d kk (v+1)=T1 at*
       generalize A1v es far d kk v=T0 at*
       generalize far.getD v 0=fv at*
       generalize d.getD v 0=dv at*
       by_cases hfk:fv=kk
       ·by_cases hdn:dv<0
        ·have hj3:=hj1 hfk
         have hc:=B1W (a:= -dv) hj3 (by omega)
         have hjz:jv≠0:=by omega
         have hjz': ¬jv=0:=by omega
         rw [if_pos ⟨hfk,hdn⟩] at hT
         refine zJ trivial (zc @hvI (zc @hg (zc @hds (zc @hfk (zc @hdn (zc @hjz (zc @hjz' (zc @A0F (zc @hd (zc @A0f (zc @hfl (zc @Nat.zero_add trivial)))))))))))) trivial (zc hJv trivial) trivial ?_
         refine ⟨v+1,A0s.headF 7 95 [0,2,3,4,5,7,49,50,51] (zc @hnx (zc @hT trivial)) (zV3 @A0o @A0j @A0r),?_,?_⟩
         ·exact hvl
         ·omega
        ·rw [if_neg (fun h=>hdn h.2)] at hT
         refine zR (zc @hvI (zc @hg (zc @hds (zc @hfk (zc @hdn (zc @A0F (zc @hd (zc @A0f (zc @hfl (zc @Nat.zero_add trivial)))))))))) trivial trivial ?_
         refine ⟨v+1,A0s.headF 7 95 [0,2,3,4,5,7,49,50,51] (zc @hnx (zc @hT trivial)) (zV3 @A0o @A0j @A0r),?_,?_⟩
         ·exact hvl
         ·omega
       ·rw [if_neg (fun h=>hfk h.1)] at hT
        refine zR (zc @hvI (zc @hg (zc @hds (zc @hfk (zc @A0F (zc @hd (zc @A0f (zc @hfl (zc @Nat.zero_add trivial))))))))) trivial trivial ?_
        refine ⟨v+1,A0s.headF 7 95 [0,2,3,4,5,7,49,50,51] (zc @hnx (zc @hT trivial)) (zV3 @A0o @A0j @A0r),?_,?_⟩
        ·exact hvl
        ·omega
      ·have hnl2: ¬(v:Int)<(n:Int):=by omega
       have ev:v=n:=by omega
       rw [ev]
       rw [ev] at hnl2
       have hun:B1V n es far (k+1) (d,s)=B1V n es far k (B1U n es far ((k:Int)+1) (d,s)):=rfl
       rw [hun] at hW
       have hl1:B1U n es far ((k:Int)+1) (d,s)=if 0<A1v es far d ((k+1:Nat):Int) n then (A1t es (A1v es far d ((k+1:Nat):Int) n) (A15 far ((k+1:Nat):Int)) n d,A1q (A1v es far d ((k+1:Nat):Int) n) (A15 far ((k+1:Nat):Int)) n s) else (d,s):=rfl
       have hl2:B1U n es far ((k+1:Nat):Int) (d,s)=B1U n es far ((k:Int)+1) (d,s):=rfl
       rw [hl2] at hst
       rw [show ((k+1:Nat):Int)-1=(k:Int) by omega] at hst
       have hk1:((k+1:Nat):Int)-1=(k:Int):=by omega
       have hfire:=fun hF1 hF2=>B6S n q es d s (A15 far ((k+1:Nat):Int)) h1 h12 hd hs hnll hl hm (A1v es far d ((k+1:Nat):Int) n) (by omega) (A0t hLk.db (by omega)) (A0t hLk.sb (by omega)) hF1 hF2
       by_cases htp:0<A1v es far d ((k+1:Nat):Int) n
       ·rw [if_pos htp] at hl1
        rw [hl1] at hst hW
        replace hfire:=hfire (A0t hst.db (by omega)) (A0t hst.sb (by omega))
        generalize A1v es far d ((k+1:Nat):Int) n=T at*
        repeat' (first|((with_reducible refine AWp.seq (AWp.of_reg (id:=20) (AReg.pre 3 (fun K hK=>?_))));simp only [List.take_succ_cons,List.take_zero])|((with_reducible refine AWp.of_reg (id:=20) (AReg.pre 3 (fun K hK=>?_)));simp only [List.take_succ_cons,List.take_zero])|((first|(refine zT ?_;intro K' hK')|(refine zG ?_ ?_<;>(try refine zH ?_)<;>intro hguard<;>(try exact zX)<;>try intro K' hK'))<;>((try simp+contextual only [go_sem,hnl2,htp]);(repeat' first|(with_reducible refine hK' _ _ ?_;clear hK' K')|exact zY|with_reducible refine And.intro ?_ ?_|(with_reducible intro hpath;try exact zP)|(refine hK' _ _ ?_;clear hK' K')|fail);try refine zS ?_))|(refine zE ?_;refine hK _ _ ?_;clear hK K)|(refine zN ?_;try refine zS ?_)|refine zA ?_|(refine zB ?_;intro K hK)|(refine zC ?_ ?_<;>(try refine zH ?_)<;>intro hcond<;>try exact zX)|fail)
        simp only [List.drop_succ_cons,List.drop_zero]
        refine AReg.step (rv:= .tup []) (H':=[.box [.int .i64 (n:Int),.slice (A0b es) .none],.ro [.int .i64 (n:Int),.slice (A0b es)],.box (iC (A1t es T (A15 far ((k+1:Nat):Int)) n d)),.box (iC (A1q T (A15 far ((k+1:Nat):Int)) n s)),.roC [.tree (.int .i64 (n:Int)),.tree (.slice (A0b es)),.tree (.int .i64 (q:Int)),.ref 2 1 0 n n,.ref 3 1 0 n n,.tree (.int .i64 0)],.box (bC (A15 far ((k+1:Nat):Int))),.box [.ref 5 1 0 n n]]) rfl rfl (B3l (Operand.tmp 91) #[Operand.tmp 92,Operand.tmp 93] _ rfl 106 [.ptr 4 0] rfl _ hfire) ?_
        refine AReg.rest (fun K hK=> ?_)
        repeat' (first|((first|(refine zT ?_;intro K' hK')|(refine zG ?_ ?_<;>(try refine zH ?_)<;>intro hguard<;>(try exact zX)<;>try intro K' hK'))<;>((try simp+contextual only [go_sem,hk1]);(repeat' first|(with_reducible refine hK' _ _ ?_;clear hK' K')|exact zY|with_reducible refine And.intro ?_ ?_|(with_reducible intro hpath;try exact zP)|(refine hK' _ _ ?_;clear hK' K')|fail);try refine zS ?_))|(refine zE ?_;refine hK _ _ ?_;clear hK K)|(refine zN ?_;try refine zS ?_)|refine zA ?_|(refine zB ?_;intro K hK)|(refine zC ?_ ?_<;>(try refine zH ?_)<;>intro hcond<;>try exact zX)|fail)
        refine ⟨(k,(A1t es T (A15 far ((k+1:Nat):Int)) n d,A1q T (A15 far ((k+1:Nat):Int)) n s)),A0s.headN 5 95 [0,2,3,4] (zV3 @A0o @A0j @A0r),?_,?_⟩
        ·exact ⟨by omega,hW,_,hY1,hPk',hst⟩
        ·show k<k+1
         omega
       ·rw [if_neg htp] at hl1
        rw [hl1] at hst hW
        clear hfire
        generalize A1v es far d ((k+1:Nat):Int) n=T at*
        repeat' (first|((first|(refine zT ?_;intro K' hK')|(refine zG ?_ ?_<;>(try refine zH ?_)<;>intro hguard<;>(try exact zX)<;>try intro K' hK'))<;>((try simp+contextual only [go_sem,hnl2,htp,hk1]);(repeat' first|(with_reducible refine hK' _ _ ?_;clear hK' K')|exact zY|with_reducible refine And.intro ?_ ?_|(with_reducible intro hpath;try exact zP)|(refine hK' _ _ ?_;clear hK' K')|fail);try refine zS ?_))|(refine zE ?_;refine hK _ _ ?_;clear hK K)|(refine zN ?_;try refine zS ?_)|refine zA ?_|(refine zB ?_;intro K hK)|(refine zC ?_ ?_<;>(try refine zH ?_)<;>intro hcond<;>try exact zX)|fail)
        refine ⟨(k,(d,s)),A0s.headN 5 95 [0,2,3,4] (zV3 @A0o @A0j @A0r),?_,?_⟩
        ·exact ⟨by omega,hW,_,hY1,hPk',hst⟩
        ·show k<k+1
         omega
end Go.Proofs.Ytdhfgihnoimoaaa
