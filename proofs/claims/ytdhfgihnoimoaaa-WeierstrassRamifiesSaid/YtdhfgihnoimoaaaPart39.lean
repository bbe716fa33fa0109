/- A part of the proof. -/
import Derived.Test.YtdhfgihnoimoaaaLayerC
import Derived.Test.YtdhfgihnoimoaaaPart37
import Derived.Test.YtdhfgihnoimoaaaPart13
set_option linter.all false
set_option maxHeartbeats 4000000
set_option maxRecDepth 100000
namespace Go.Proofs.Ytdhfgihnoimoaaa
open Go.Sp
theorem B5G {es:List E} (hd:distinctE es) (hle: ∀e,e∈es→e.a≤e.b) {u v:Nat} (hne:u≠v):mulE es u v=A6U es (min (u:Int) v) (max (u:Int) v):=by
 induction es with
 | nil=>rfl
 | cons e es ih=>
  rw [B4V hd]
  simp only [mulE]
  rw [ih (List.pairwise_cons.1 hd).2 fun x hx=>hle x (by simp [hx])]
  have h1:=hle e (by simp)
  have:(e.a≠e.b∧((e.a=u∧e.b=v)∨(e.b=u∧e.a=v)))↔(e.a=min (u:Int) v∧e.b=max (u:Int) v):=by omega
  by_cases h:e.a=min (u:Int) v∧e.b=max (u:Int) v
  ·rw [if_pos h,if_pos (this.2 h)]
  ·rw [if_neg h,if_neg (fun q=>h (this.1 q))]
open Classical in
noncomputable def B3U (n:Nat) (es:List E) (d:List Int):Bool:=decide (win n (mulE es) fun v=>d.getD v 0)
theorem A5Y {n:Nat} {es:List E} {d:List Int}:B3U n es d=true↔win n (mulE es) fun v=>d.getD v 0:=by
 classical simp [B3U]
theorem B3V (M:Nat→Nat→Int) (n k:Nat) (d:List Int) (b:List Bool):A96 M n (k+1) d b=match B3P d with
  | none=>true
  | some v=>if b.all id=true then false else A96 M n k (A3g M v n d) (b.set v true):=rfl
theorem B0R (M:Nat→Nat→Int) (v k:Nat) (d:List Int) (hne:k≠v):A3g M v (k+1) d=((A3g M v k d).set k ((A3g M v k d).getD k 0-M k v)).set v (((A3g M v k d).set k ((A3g M v k d).getD k 0-M k v)).getD v 0+M k v):=by
 simp only [A3g,if_neg hne]
theorem B0S (M:Nat→Nat→Int) (v:Nat) (d:List Int):A3g M v (v+1) d=A3g M v v d:=by simp only [A3g,if_true]
theorem B2a {es:List E} (hm: ∀e,e∈es→0≤e.m) (a b:Int):0≤A6U es a b:=by
 induction es with
 | nil=>exact Int.le_refl _
 | cons e es ih=>
  simp only [A6U]
  split
  ·exact hm e (by simp)
  ·exact ih fun x hx=>hm x (by simp [hx])
theorem B5H {es:List E} (hm: ∀e,e∈es→e.m≤50) (a b:Int):A6U es a b≤50:=by
 induction es with
 | nil=>exact (by decide:(0:Int)≤50)
 | cons e es ih=>
  simp only [A6U]
  split
  ·exact hm e (by simp)
  ·exact ih fun x hx=>hm x (by simp [hx])
theorem B2P {M:Nat→Nat→Int} {v:Nat} {d:List Int} {K:Int} (hm: ∀u,0≤M u v∧M u v≤50) (hb:bndL K d) (hv:v<d.length): ∀k,k≤d.length→ ∀w,-(K+50*k)≤(A3g M v k d).getD w 0∧(A3g M v k d).getD w 0≤K+50*k
 | 0,_=>fun w=>by have:=hb w; simp only [A3g]; omega
 | k+1,hk=>fun w=>by
  have ih:=B2P hm hb hv k (by omega)
  have hl:=A4M M v d k
  by_cases e:k=v
  ·subst e
   rw [B0S]
   have:=ih w; omega
  ·rw [B0R M v k d e,A08 _ _ _ _ (by rw [List.length_set,hl]; exact hv),A08 _ _ _ _ (by rw [hl]; omega),A08 _ _ _ _ (by rw [hl]; omega),if_neg (show ¬v=k by omega)]
   have h1:=ih w
   have h2:=ih v
   have h3:=ih k
   have h4:=hm k
   split
   ·omega
   ·split<;>omega
theorem B83 {n:Nat} {es:List E} (g:Gok n es) {d0:List Int} (hd0:d0.length=n) (hb0:bndL 1000 d0) (hsz:sizeE es≤1000):ACall Try.prog 93 [tG ⟨(n:Int),es⟩,A0m d0] (A09 (B3U n es d0)):=by
 have h1:=g.h1
 have h12:=g.h12
 have h0:0<n:=by omega
 have hM:=g.hM
 have hl40:=g.hl
 have hTot:=A9C d0 hd0 (by omega) (A0t hb0 (by decide))
 have hchk:=A02.1 g.hc
 have hdist:=B1F hchk.2.2
 have hle: ∀e,e∈es→e.a≤e.b:=fun e he=>by have:=hchk.2.1 e he; unfold okE at this; exact this.2.1
 have hm50:=fun (u v:Int)=>B5H (es:=es) (fun e he=>(g.hE.rng e he).2.2.2) u v
 have hm0:=fun (u v:Int)=>B2a (es:=es) (fun e he=>(g.hE.rng e he).2.2.1) u v
 have hval: ∀v,v<n→sumR (mulE es v) n≤1000:=fun v _=>Int.le_trans (A3U g.hE v) hsz
 have hBet:=fun (u v:Nat) (H:List Blk)=>(A7O ⟨(n:Int),es⟩ u v (by show es.length<2^40; omega)).h (H:=H) (args:=[ofT (tG ⟨(n:Int),es⟩),.c (.int .i64 u),.c (.int .i64 v)]) rfl
 simp only [tG,A0g,ofT,A3i,A0x,List.map_cons,List.map_nil] at hBet
 have hrl:(A0p d0).length=n:=by rw [A0f]; exact hd0
 have hrk: ∀r,r∈A0p d0→r.length=1:=fun r hr=>A1w hr
 have hflat:flatRows (A0p d0)=iC d0:=A35 d0
 by_cases hneg:sumD d0 n<0
 ·have hw:B3U n es d0=false:=by
   rw [Bool.eq_false_iff]
   intro h
   have:=(A5Y.1 h).deg hM
   have e:sumD d0 n=sumR (fun v=>d0.getD v 0) n:=rfl
   omega
  rw [hw]
  refine ACall.of_body Try.func93 rfl (by kernel_rfl) ?_
  simp only [entry,Try.ntmps93,tG,A0m]
  refine zU ?_
  refine zR (zc @hneg trivial) (zc hTot trivial) trivial ?_
  simp [A0E,A0C,Blk.cells,ty,Try.results93,A0y,A05,toT,A0e,A0c,A0d,A0a,A09]
 have hC:(n:Int)*(n*(n*(1000+1000)))≤4000000:=by
  have h2:(n:Int)*(1000+1000)≤12*2000:=by omega
  have h3:(n:Int)*(n*(1000+1000))≤12*24000:=Int.mul_le_mul (by omega) h2 (Int.mul_nonneg (by omega) (by decide)) (by decide)
  have h4:(n:Int)*(n*(n*(1000+1000)))≤12*288000:=Int.mul_le_mul (by omega) (by omega) (Int.mul_nonneg (by omega) (Int.mul_nonneg (by omega) (by decide))) (by decide)
  omega
 have hbeg:=GI.begin (n:=n) (M:=mulE es) (d:=d0) (U:=1000) (C:=4000000) hd0 (by decide) (fun v _=>(hb0 v).2)
 have hokk:A96 (mulE es) n 10000000 d0 (List.replicate n false)=B3U n es d0:=by
  have:=B2H hM h0 hd0 (U:=1000) (N:=1000) (by decide) (by decide) (fun v _=>(hb0 v).2) (fun v _=>(hb0 v).1) hval (f:=10000000) (by omega)
  rw [Bool.eq_iff_iff,this]
  exact A5Y.symm
 have hdeg0:0≤sumR (fun v=>d0.getD v 0) n:=by
  have e:sumD d0 n=sumR (fun v=>d0.getD v 0) n:=rfl
  omega
 have hlow: ∀{s:Nat→Int} {k:Nat} {d:List Int} {b:List Bool},GI n (mulE es) (fun v=>d0.getD v 0) 1000 4000000 s k d b→bndL 12000 d:=fun {s k d b} h v=>by
  by_cases hv:v<n
  ·have h2:=h.top v hv
   have h3:=h.low hM v hv
   have h4:(n:Int)*1000≤12000:=by omega
   omega
  ·rw [List.getD_eq_getElem?_getD,List.getElem?_eq_none (by rw [h.dl]; omega)]; simp
 have hstep:=fun {s:Nat→Int} {k:Nat} {d:List Int} {b:List Bool} (h:GI n (mulE es) (fun v=>d0.getD v 0) 1000 4000000 s k d b) {q:Nat}=>h.step (N:=1000) (q:=q) hM (by decide) (by decide) (fun v _=>(hb0 v).1) hC hval
 generalize hW:B3U n es d0=W at*
 clear hW hb0 hsz
 rw [show (10000000:Nat)=10000000-0 from rfl] at hokk
 generalize hTT:(10000000:Nat)=T at hokk
 refine ACall.of_body Try.func93 rfl (by kernel_rfl) ?_
 simp only [entry,Try.ntmps93,tG,A0m]
 refine zU ?_
 repeat' (first|((with_reducible refine AWp.seq (AWp.of_reg (id:=3) (AReg.pre 2 (fun K hK=>?_))));simp only [List.take_succ_cons,List.take_zero])|((with_reducible refine AWp.of_reg (id:=3) (AReg.pre 2 (fun K hK=>?_)));simp only [List.take_succ_cons,List.take_zero])|((first|(refine zT ?_;intro K' hK')|(refine zG ?_ ?_<;>(try refine zH ?_)<;>intro hguard<;>(try exact zX)<;>try intro K' hK'))<;>((try simp+contextual only [go_sem,hneg]);(repeat' first|(with_reducible refine hK' _ _ ?_;clear hK' K')|(with_reducible refine zK hTot ?_;try simp+contextual only [go_sem,hneg])|exact zY|with_reducible refine And.intro ?_ ?_|(with_reducible intro hpath;try exact zP)|(refine hK' _ _ ?_;clear hK' K')|fail);try refine zS ?_))|(refine zE ?_;refine hK _ _ ?_;clear hK K)|(refine zN ?_;try refine zS ?_)|refine zA ?_|(refine zB ?_;intro K hK)|(refine zC ?_ ?_<;>(try refine zH ?_)<;>intro hcond<;>try exact zX)|fail)
 simp only [List.drop_succ_cons,List.drop_zero]
 refine AReg.step rfl rfl (A34 (e:=3) (e2:=3) (k:=1) (z:= .int .i64 0) (by':=8) (rows:=A0p d0) _ _ _ _ rfl (by simp only [ty]) (by simp only [ty]) (by simp only [ty]) (by decide) (by simp only [ty]) rfl (by simp only [ty]) rfl rfl hrk (by omega) (by omega) (by omega)) ?_
 refine AReg.rest (fun K hK=> ?_)
 simp only [hflat,hrl]
 refine zJ (stop 5) (zc @A2J (zc @Nat.zero_add trivial)) trivial trivial trivial ?_
 refine zR trivial trivial trivial ?_
 refine AWp.loopS (α:=(Nat×(List Int×List Bool))) 60 (fun w=>[(1,.c (.ref 1 1 0 n n)),(2,.c (.ptr 0 0)),(5,.c (.ref 2 1 0 n n)),(6,.c (.int .i64 (w.1:Int)))]) (fun w=>[.box [.int .i64 (n:Int),.slice (A0b es) .none],.box (iC w.2.1),.box (bC w.2.2)]) (fun w=>w.1≤T∧(∃s,GI n (mulE es) (fun v=>d0.getD v 0) 1000 4000000 s w.1 w.2.1 w.2.2)∧A96 (mulE es) n (T-w.1) w.2.1 w.2.2=W) (fun w=>T-w.1) ((0,(d0,List.replicate n false))) (hk:=A0s.headL 3 60 [1,2,5,6] (zV2 @A0o @A0j)) (h0:=?_) (round:=fun w hI=>?_)
 ·exact ⟨Nat.zero_le _,⟨_,hbeg⟩,hokk⟩
 ·obtain ⟨k,d,b⟩:=w
  obtain ⟨hk,⟨s,hG⟩,hres⟩:=hI
  simp only at hk hG hres ⊢
  have hdl:=hG.dl
  have hbl:=hG.bl
  have hdb:=hlow hG
  by_cases hkl:k<T
  ·have hkI:(k:Int)<10000000:=by omega
   have hT1:T-k=(T-(k+1))+1:=by omega
   rw [hT1,B3V] at hres
   have hDb:=fun (H:List Blk) (hH:H[1]? =some (.box (iC d)))=>B7c d hdl (by omega) (H:=H) (x:= .ref 1 1 0 n n) (A4X hdl hH)
   have hAl:=fun (H:List Blk) (hH:H[2]? =some (.box (bC b)))=>B9E b hbl (by omega) (H:=H) (x:= .ref 2 1 0 n n) (B78 hbl hH)
   cases ho:B3P d with
   | none=>
    have e:B5X d= -1:=by unfold B5X; rw [ho]
    rw [ho] at hres
    simp only at hres
    subst hres
    rw [e] at hDb
    repeat' ((fail_if_success (with_reducible refine AWp.atSeq 99 ?_));(fail_if_success (with_reducible refine AWp.atLast 99 ?_));first|((first|(refine zT ?_;intro K' hK')|(refine zG ?_ ?_<;>(try refine zH ?_)<;>intro hguard<;>(try exact zX)<;>try intro K' hK'))<;>((try simp+contextual only [go_sem,hkI]);(repeat' first|(with_reducible refine hK' _ _ ?_;clear hK' K')|((with_reducible first|refine ⟨_,_,(hDb _ rfl),?_⟩|refine ⟨_,(hDb _ rfl),?_⟩);try simp+contextual only [go_sem,hkI])|exact zY|with_reducible refine And.intro ?_ ?_|(with_reducible intro hpath;try exact zP)|(refine hK' _ _ ?_;clear hK' K')|fail);try refine zS ?_))|(refine zE ?_;refine hK _ _ ?_;clear hK K)|(refine zN ?_;try refine zS ?_)|refine zA ?_|(refine zB ?_;intro K hK)|(refine zC ?_ ?_<;>(try refine zH ?_)<;>intro hcond<;>try exact zX)|fail)
    simp [A0E,A0C,Blk.cells,ty,Try.results93,A0y,A05,toT,A0e,A0c,A0d,A0a,A09]
   | some v=>
    obtain ⟨hv,hdv⟩:=B0D ho
    rw [hdl] at hv
    have e:B5X d=v:=by unfold B5X; rw [ho]
    rw [ho] at hres
    simp only at hres
    rw [e] at hDb
    have hvn: ¬(v:Int)<0:=by omega
    have hvI:(v:Int)<(n:Int):=by omega
    by_cases hall:b.all id=true
    ·rw [if_pos hall] at hres
     subst hres
     rw [hall] at hAl
     repeat' ((fail_if_success (with_reducible refine AWp.atSeq 99 ?_));(fail_if_success (with_reducible refine AWp.atLast 99 ?_));first|((first|(refine zT ?_;intro K' hK')|(refine zG ?_ ?_<;>(try refine zH ?_)<;>intro hguard<;>(try exact zX)<;>try intro K' hK'))<;>((try simp+contextual only [go_sem,hkI,hvn]);(repeat' first|(with_reducible refine hK' _ _ ?_;clear hK' K')|((with_reducible first|refine ⟨_,_,(hDb _ rfl),?_⟩|refine ⟨_,(hDb _ rfl),?_⟩|refine ⟨_,_,(hAl _ rfl),?_⟩|refine ⟨_,(hAl _ rfl),?_⟩);try simp+contextual only [go_sem,hkI,hvn])|exact zY|with_reducible refine And.intro ?_ ?_|(with_reducible intro hpath;try exact zP)|(refine hK' _ _ ?_;clear hK' K')|fail);try refine zS ?_))|(refine zE ?_;refine hK _ _ ?_;clear hK K)|(refine zN ?_;try refine zS ?_)|refine zA ?_|(refine zB ?_;intro K hK)|(refine zC ?_ ?_<;>(try refine zH ?_)<;>intro hcond<;>try exact zX)|fail)
     simp [A0E,A0C,Blk.cells,ty,Try.results93,A0y,A05,toT,A0e,A0c,A0d,A0a,A09]
    ·rw [if_neg hall] at hres
     obtain ⟨q,q1,q2⟩:=A5R hall
     rw [hbl] at q1
     have hsq:s q=0:=by
      have:=hG.mark q q1
      rw [q2] at this
      have h3:=of_decide_eq_false this.symm
      have:=hG.s0 q
      omega
     have hnext:=hstep hG q1 hsq hv hdv
     rw [Bool.not_eq_true] at hall
     rw [hall] at hAl
     have hbs:=A4W b v true
     generalize hb1:b.set v true=b1 at*
     have hb1l:=hnext.bl
     have hbb:=B2P (M:=mulE es) (v:=v) (d:=d) (K:=12000) (fun u=>by
      by_cases e:u=v
      ·rw [e,A7g]; omega
      ·rw [B5G hdist hle e]; exact ⟨hm0 _ _,hm50 _ _⟩) hdb (by omega)
     repeat' ((fail_if_success (with_reducible refine AWp.atSeq 99 ?_));(fail_if_success (with_reducible refine AWp.atLast 99 ?_));first|((first|(refine zT ?_;intro K' hK')|(refine zG ?_ ?_<;>(try refine zH ?_)<;>intro hguard<;>(try exact zX)<;>try intro K' hK'))<;>((try simp+contextual only [go_sem,hkI,hvn,hvI,hbs,A1z,hbl,Int.toNat_natCast,Nat.mul_one,Nat.zero_add]);(repeat' first|(with_reducible refine hK' _ _ ?_;clear hK' K')|((with_reducible first|refine ⟨_,_,(hDb _ rfl),?_⟩|refine ⟨_,(hDb _ rfl),?_⟩|refine ⟨_,_,(hAl _ rfl),?_⟩|refine ⟨_,(hAl _ rfl),?_⟩);try simp+contextual only [go_sem,hkI,hvn,hvI,hbs,A1z,hbl,Int.toNat_natCast,Nat.mul_one,Nat.zero_add])|exact zY|with_reducible refine And.intro ?_ ?_|(with_reducible intro hpath;try exact zP)|(refine hK' _ _ ?_;clear hK' K')|fail);try refine zS ?_))|(refine zE ?_;refine hK _ _ ?_;clear hK K)|(refine zN ?_;try refine zS ?_)|refine zA ?_|(refine zB ?_;intro K hK)|(refine zC ?_ ?_<;>(try refine zH ?_)<;>intro hcond<;>try exact zX)|fail)
     refine AWp.loopS (α:=Nat) 60 (fun u=>[(1,.c (.ref 1 1 0 n n)),(2,.c (.ptr 0 0)),(5,.c (.ref 2 1 0 n n)),(6,.c (.int .i64 (k:Int))),(7,.c (.int .i64 (v:Int))),(8,.c (.int .i64 (u:Int)))]) (fun u=>[.box [.int .i64 (n:Int),.slice (A0b es) .none],.box (iC (A3g (mulE es) v u d)),.box (bC b1)]) (fun u=>u≤n) (fun u=>n-u) (0) (hk:=A0s.headL 3 60 [1,2,5,6,7,8] (zV2 @A0o @A0j)) (h0:=?_) (round:=fun u hI=>?_)
     ·exact Nat.zero_le _
     ·have hu:u≤n:=hI
      clear hI
      by_cases hul:u<n
      ·have huI:(u:Int)<(n:Int):=by omega
       by_cases huv:u=v
       ·subst huv
        rw [show (k:Int)=k from rfl]
        have hsame:=B0S (mulE es) u d
        generalize hN1:A3g (mulE es) u (u+1) d=N1 at*
        generalize A3g (mulE es) u u d=N0 at*
        refine zR (zc @huI trivial) trivial trivial ?_
        refine ⟨u+1,A0s.headF 3 60 [1,2,5,6,7,8] (zc @hN1 (zc @hsame trivial)) (zV2 @A0o @A0j),?_,?_⟩
        ·exact hul
        ·omega
       ·have huvI: ¬(u:Int)=(v:Int):=by omega
        have hsucc:=B0R (mulE es) v u d huv
        have hbu:=hbb u (by omega)
        have hlu:=A4M (mulE es) v d u
        rw [hdl] at hlu
        rw [B5G hdist hle huv] at hsucc
        have hc0:=hm0 (min (u:Int) v) (max (u:Int) v)
        have hc5:=hm50 (min (u:Int) v) (max (u:Int) v)
        have hBuv:=hBet u v
        generalize A6U es (min (u:Int) v) (max (u:Int) v)=cc at*
        have g1:=A1J (A0u (d:=A3g (mulE es) v u d) (i:=u) (by omega))
        have b1:=hbu u
        have b2:=hbu v
        have e1:=A2z (A3g (mulE es) v u d) u ((A3g (mulE es) v u d).getD u 0-cc)
        have g2:=A1J (A0u (d:=(A3g (mulE es) v u d).set u ((A3g (mulE es) v u d).getD u 0-cc)) (i:=v) (by rw [List.length_set]; omega))
        have e2:=A2z ((A3g (mulE es) v u d).set u ((A3g (mulE es) v u d).getD u 0-cc)) v (((A3g (mulE es) v u d).set u ((A3g (mulE es) v u d).getD u 0-cc)).getD v 0+cc)
        have l1:((A3g (mulE es) v u d).set u ((A3g (mulE es) v u d).getD u 0-cc)).length=n:=by rw [List.length_set]; exact hlu
        have b3:((A3g (mulE es) v u d).set u ((A3g (mulE es) v u d).getD u 0-cc)).getD v 0=(A3g (mulE es) v u d).getD v 0:=by
         rw [A08 _ _ _ _ (by omega),if_neg (by omega)]
        rw [←b3] at b2
        rw [←hsucc] at e2
        generalize hN1:A3g (mulE es) v (u+1) d=N1 at*
        generalize A3g (mulE es) v u d=N0 at*
        generalize N0.getD u 0=x at*
        generalize N0.set u (x-cc)=N2 at*
        generalize N2.getD v 0=y at*
        clear b3 hbb hbu hnext hstep hlow hres hsucc
        refine zJ trivial (zc @huI (zc @huvI (zc @hvI (zc @g1 (zc @g2 (zc @e1 (zc @e2 (zc @A0F (zc @hlu (zc @l1 (zc @Nat.zero_add trivial))))))))))) trivial (zc @hBuv trivial) trivial ?_
        refine ⟨u+1,A0s.headF 3 60 [1,2,5,6,7,8] (zc @hN1 trivial) (zV2 @A0o @A0j),?_,?_⟩
        ·exact hul
        ·omega
      ·have hnl: ¬(u:Int)<(n:Int):=by omega
       have eu:u=n:=by omega
       rw [eu]
       rw [eu] at hnl
       generalize hN1:A3g (mulE es) v n d=N1 at*
       refine zR (zc @hnl trivial) trivial trivial ?_
       refine ⟨(k+1,(N1,b1)),A0s.headN 3 60 [1,2,5,6] (zV2 @A0o @A0j),?_,?_⟩
       ·exact ⟨by omega,⟨_,hnext⟩,hres⟩
       ·simp only; omega
  ·have hnl: ¬(k:Int)<10000000:=by omega
   have ek:T-k=0:=by omega
   rw [ek] at hres
   have e:W=false:=by rw [←hres]; rfl
   subst e
   refine zR (zc @hnl trivial) trivial trivial ?_
   simp [A0E,A0C,Blk.cells,ty,Try.results93,A0y,A05,toT,A0e,A0c,A0d,A0a,A09]
end Go.Proofs.Ytdhfgihnoimoaaa
