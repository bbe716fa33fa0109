/- A part of the proof. -/
import Derived.Test.YtdbdfkohpjefjaaGreatPart34
import Derived.Test.YtdbdfkohpjefjaaGreatPart36
import Derived.Test.YtdbdfkohpjefjaaGreatPart33
import Derived.Test.YtdbdfkohpjefjaaGreatPart35
set_option linter.all false
set_option maxHeartbeats 4000000
set_option maxRecDepth 100000
namespace Go.Proofs.YtdbdfkohpjefjaaGreat
open Go.Sp
def A7D (p:Nat->Bool):Nat->Nat
 | 0=>0
 | n+1=>(if p n=true then 2^n else 0)+A7D p n
theorem A7U (p:Nat->Bool): ∀n,A7D p n<2^n
 | 0=>by simp [A7D]
 | n+1=>by
  have:=A7U p n;unfold A7D;rw [Nat.pow_succ];split<;>omega
theorem A3S (w v:Nat):B2s w v=1↔w.testBit v=true:=by
 unfold B2s;rw [Nat.testBit_eq_decide_div_mod_eq,decide_eq_true_eq]
theorem A2P (p:Nat->Bool): ∀n v,v<n->(A7D p n).testBit v=p v
 | 0,v,h=>by omega
 | n+1,v,h=>by
  have hl:=A7U p n;unfold A7D;by_cases e:v=n
  ·subst e;cases hp:p v with
   | true=>rw [if_pos rfl,Nat.testBit_two_pow_add_eq,Qx4 hl]; rfl
   | false=>rw [if_neg (by simp),Xy,Qx4 hl]
  ·have ih:=A2P p n v (by omega);split
   ·rw [Nat.testBit_two_pow_add_gt (by omega),ih]
   ·rw [Xy,ih]
structure MinC (g:G) (n:Nat) (w:Nat):Prop where
 c:checkG g=0
 n':g.n=n
 n2:2≤n
 odd:w%2=1
 lt:w<2^n-1
 eq:connW n g.es (2^n-1)=(cutW w g.es,setN n w)
 mn: ∀w',w'%2=1->w'<2^n-1->cutW w g.es≤cutW w' g.es
section
variable {g:G} {n w:Nat}
end
noncomputable def A4l (g:G):Nat->List (List Int)
 | 0=>[]
 | w+1=>if treeB g.n.toNat (endsL g.es) (zI (setN (endsL g.es).length w))=true then A4l g w++[zI (setN (endsL g.es).length w)] else A4l g w
theorem B5w (g:G): ∀w,(A4l g w).length≤w
 | 0=>by simp [A4l]
 | w+1=>by have:=B5w g w; unfold A4l; split<;>simp<;>omega
theorem A7V {g:G} {x:List Int}: ∀{m:Nat},x∈A4l g m↔ ∃w,w<m∧x=zI (setN (endsL g.es).length w)∧treeB g.n.toNat (endsL g.es) x=true
 | 0=>by simp [A4l]
 | m+1=>by
  have ih:= @A7V g x m;unfold A4l;constructor
  ·intro h;split at h
   ·rename_i ht;rcases XJ.1 h with h | h
    ·obtain ⟨w,hw,q⟩:=ih.1 h; exact ⟨w,by omega,q⟩
    ·rw [Zz] at h; exact ⟨m,by omega,h,by rw [h]; exact ht⟩
   ·obtain ⟨w,hw,q⟩:=ih.1 h; exact ⟨w,by omega,q⟩
  ·rintro ⟨w,hw,rfl,q⟩;by_cases e:w=m
   ·subst e; rw [if_pos q]; simp
   ·have:=ih.2 ⟨w,by omega,rfl,q⟩;split
    ·exact Qw0 _ this
    ·exact this
noncomputable def A9i (g:G):List (List Int):=sortLL (A4l g (2^(endsL g.es).length))
theorem B9P (g:G) (hc:checkG g=0) (hl:g.es.length≤40) (hE:(endsL g.es).length≤20):ACall Tryz.prog 60 [tG g] (A0R (A9i g)):=by
 have hs:=A9y (g:=g) (by omega) hc;have hZ:=A32 g hs.s hs.es hs.m;have hS:=fun w hw=>C3V (endsL g.es).length w (by omega) hw
 have hIs:=fun w=>C5s g (zI (setN (endsL g.es).length w)) hl hc (fun x hx=>by
  obtain ⟨a,rfl,ha,-⟩:=B5k.1 hx; omega) (by rw [A35]; have:=A5v (endsL g.es).length w; omega)
 have hzl: ∀w,(zI (setN (endsL g.es).length w)).length≤20:=fun w=>by rw [A35]; have:=A5v (endsL g.es).length w; omega
 have hsl:=B5w g;have hsu: ∀w,A4l g (w+1)=if treeB g.n.toNat (endsL g.es) (zI (setN (endsL g.es).length w))=true then A4l g w++[zI (setN (endsL g.es).length w)] else A4l g w:=fun _=>rfl
 have hpE:2^(endsL g.es).length≤2^20:=Qz5 (by omega) hE
 have hO:ACall Tryz.prog 104 [A0R (A4l g (2^(endsL g.es).length))] (A0R (A9i g)):=B6D _ (by have:=hsl (2^(endsL g.es).length); omega) (fun x hx=>by
  obtain ⟨w,-,rfl,-⟩:=A7V.1 hx
  have:=hzl w; omega)
 have hz:A0p []=A00 (A4l g 0):=rfl;have hz1:(A4l g 0).length=0:=rfl;generalize A9i g=R at*;generalize A4l g=sp at*;obtain ⟨n,es⟩:=g;simp only at*;generalize treeB n.toNat (endsL es)=tB at*;generalize endsL es=L at*;generalize L.length=E at*;refine ACall.of_body Tryz.func60 rfl (by kernel_rfl) ?_;simp only [entry,Tryz.ntmps60,tG];refine zU ?_;refine zR Qw9 (zc hZ Qw9) Qw9 ?_;rw [show (1:Int)=((2^0:Nat):Int) from rfl];refine AWp.loopS (α:=Nat) 35 (fun i=>[(1,.c (.ptr 0 0)),(3,.c (.int .i64 (E:Int))),(4,.c (.int .i64 ((2^i:Nat):Int))),(5,.c (.int .i64 (i:Int)))]) (fun i=>[.box [.int .i64 n,.slice (A0f es) .none]]) (fun i=>i≤E) (fun i=>E-i) (0) (hk:=Weak.headL 1 35 [1,3,4,5] zW) (h0:=?_) (round:=fun i hI=>?_)
 ·exact Xj _
 ·have hi:i≤E:=hI;clear hI;by_cases hlt:i<E
  ·have hltI:(i:Int)<(E:Int):=by omega
   have hp:2^(i+1)=2^i*2:=Nat.pow_succ 2 i;have hpl:2^i≤2^20:=Qz5 (by omega) (by omega);generalize hQ:2^(i+1)=Q1 at*;generalize 2^i=Q at*;have hpI:(Q:Int)*2=(Q1:Int):=by omega
   refine zR (zc @hltI (zc @hpI Qw9)) Qw9 Qw9 ?_;refine ⟨i+1,Weak.headF 1 35 [1,3,4,5] (zc @hQ Qw9) zW,?_,?_⟩
   ·exact hlt
   ·omega
  ·have ei:i=E:=by omega
   have hnl: ¬(i:Int)<(E:Int):=by omega
   rw [ei] at hnl;rw [ei];clear hlt hi ei;generalize 2^E=P at*;refine zJ (stop 9) (zc @hnl Qw9) Qw9 Qw9 Qw9 ?_;refine AWp.weak (Weak.opens ((fun t f=>[f,f,f,f,f,f,t,f,f,f,f,f,f,f,f,f,f,f,f,f,f,f,f,f,f,f,f,f,f,f,f,f,f,f,f]) true false) 1 (by first | omega | simp)) ?_;simp only [A27,A8q,List.length_cons,List.length_nil,Xv,Nat.reduceAdd,List.cons_append,List.nil_append];refine zR Qw9 Qw9 Qw9 ?_;rw [show AVal.c (ACell.slice [] (.chain 1))=AVal.c (ACell.slice (A00 (sp 0)) (.chain 1)) by rw [<-hz]; rfl,show Blk.chain 0 1=Blk.chain (sp 0).length 1 by rw [hz1]];refine AWp.loopS (α:=Nat) 35 (fun w=>[(1,.c (.ptr 0 0)),(3,.c (.int .i64 (E:Int))),(4,.c (.int .i64 (P:Int))),(6,.c (.slice (A00 (sp w)) (.chain 1))),(7,.c (.int .i64 (w:Int)))]) (fun w=>[.box [.int .i64 n,.slice (A0f es) .none],.chain (sp w).length 1]) (fun w=>w≤P) (fun w=>P-w) (0) (hk:=Weak.headL 2 35 [1,3,4,6,7] zW) (h0:=?_) (round:=fun w hI=>?_)
   ·exact Xj _
   ·have hw:w≤P:=hI;clear hI;by_cases hwl:w<P
    ·have hwI:(w:Int)<(P:Int):=by omega
     have hS1:=hS w (by omega);have hI1:=hIs w;have hs1:=hsu w;have hl1:=hsl w;generalize zI (setN E w)=T at*;generalize hX1:sp (w+1)=X1 at*;generalize sp w=X at*;by_cases hb:tB T=true
     ·rw [if_pos hb] at hs1;rw [hb] at hI1;have hln:X1.length=X.length+1:=by rw [hs1]; simp
      refine zRc (zc @hwI (zc @A0o (zc @A5M Qw9))) (zc hS1 (zc hI1 Qw9)) @A3e ?_;rw [<-hs1];refine ⟨w+1,Weak.headF 2 35 [1,3,4,6,7] (zc @hX1 (zc @hln Qw9)) zW,?_,?_⟩
      ·exact hwl
      ·omega
     ·rw [if_neg hb] at hs1;have hb:tB T=false:=by simpa using hb
      rw [hb] at hI1;refine zR (zc @hwI Qw9) (zc hS1 (zc hI1 Qw9)) Qw9 ?_;rw [<-hs1];refine ⟨w+1,Weak.headF 2 35 [1,3,4,6,7] (zc @hX1 Qw9) zW,?_,?_⟩
      ·exact hwl
      ·omega
    ·have ew:w=P:=by omega
     have hnl: ¬(w:Int)<(P:Int):=by omega
     rw [ew] at hnl;rw [ew];generalize sp P=X at*;refine zR (zc @hnl Qw9) (zc hO Qw9) Qw9 ?_;simp [A0y,A0x,Blk.cells,ty,Tryz.results60,A0s,A0t,toT,A0d,A0b,A0c,A0a,A0R]
theorem B27 {r:R} {t:List Int} {k:Nat} {ts:List TVal} (h:(A90 r t)[k]? =some ts):k<2*(endsL r.es).length∧ts=[A0k (tourN r t k:Nat),A0k (gR (endsL r.es) (tourN r t k):Nat)]:=by
 have hk:=(Qx.1 h).1;rw [A68] at hk;rw [B21 hk] at h;exact ⟨hk,(Jw h).symm⟩
theorem B28 (r:R) (t:List Int):ACall Tryz.prog 53 [tR r,A0m t] (.t (.fn 99 [.rptr [.int .i64 r.n,.slice (A0f r.es),.slice (A00 r.ar)],.rptr [.slice (A0p t)]])):=by
 obtain ⟨n,es,ar⟩:=r;refine ACall.of_body Tryz.func53 rfl (by kernel_rfl) ?_;simp only [entry,Tryz.ntmps53,tR,A0m];refine zU ?_;refine zR Qw9 Qw9 Qw9 ?_;simp [A0y,A0x,Blk.cells,ty,Tryz.results53,A0s,A0t,toT,A0d,A0b,A0c,A0a]
theorem B29 (r:R) (t:List Int) (hs:RSm r) (htl:t.length<2^40):ACall Tryz.prog 12 [tR r,A0m t] (.tup [A0m (if B0t r t≠0 then [] else tourL r t (2*(endsL r.es).length)),A0k (B0t r t)]):=by
 have hg:=A9g r t hs htl;by_cases h0:B0t r t=0
 ·rw [if_neg (by omega),h0];rw [h0] at hg;have hT:=(A69 h0).1;have hw:=B28 r t;have hIt:=B5s r t hs hT htl;have hinv:=fun k ts h=>B27 (r:=r) (t:=t) (k:=k) (ts:=ts) h;have hsu:=B6J r t;have hll:=B23 r t;have hil:=A68 r t;have hlen:(endsL r.es).length≤2000:=A1B (g:=r.g) hs.es hT.ok.c;have hz:A0p (tourL r t 0)=[]:=rfl;clear hT h0;generalize A90 r t=xs at*;generalize tourL r t=tl at*;generalize tourN r t=tn at*;obtain ⟨n,es,ar⟩:=r;simp only at*;generalize endsL es=L at*;refine ACall.of_body Tryz.func12 rfl (by kernel_rfl) ?_;simp only [entry,Tryz.ntmps12,tR];refine zU ?_;refine zR Qw9 (zc hg (zc hw Qw9)) Qw9 ?_;refine AWp.weak (Weak.openB 1 0 1 rfl rfl (by omega)) ?_;simp only [List.set_cons_succ,List.set_cons_zero,List.length_cons,List.length_nil,Xv,Nat.reduceAdd,List.cons_append,List.nil_append];refine AWp.weak (Weak.head (m:=3) (by omega) ((fun t f=>[f,t,t,f,f,f,f,t,f,f,f,f,f,f,f,f,f,t,f,f,f,f,f,f,f]) true false) (by first | rfl | simp [mask]) (by first | rfl | simp) (by (repeat' (first | exact A0n _ | refine A0j ?_ ?_ | refine A0g ?_ ?_ | exact A0i _ | exact Qw7 | (show _<_; omega) | (intro c hc; cases hc; done) | (intro c hc; simp only [Qw,Qk,or_false] at hc; subst hc; first | exact Qw7 | (show _<_; omega)) | (intro c hc; simp only [Qw,Qk,or_false] at hc; rcases hc with rfl | rfl<;>first | exact Qw7 | (show _<_; omega))))) (by (repeat' (first | exact A0n _ | exact A0v _ | exact A0i _ | refine Qw8 ?_ ?_ | refine A0j ?_ ?_ | refine A0l ?_ ?_ | refine A0g ?_ ?_ | exact Qw7 | (show _<_; omega) | exact A0q (fun _=>Qw7) | (intro c hc; cases hc; done) | (intro c hc; simp only [Qw,Qk,or_false] at hc; subst hc; first | exact Qw7 | (show _<_; omega)) | (intro c hc; simp only [Qw,Qk,or_false] at hc; rcases hc with rfl | rfl<;>first | exact Qw7 | (show _<_; omega)))))) (AWp.rangeFunc (fun k H=>H=[.box [.int .i64 n,.slice (A0f es) .none,.slice (A00 ar) .none],.box [.slice (A0p (tl k)) (.chain 2)],.chain k 1]∧(True)) (fun _ _=>False) 3 rfl (hIt) (fun k ts hts=>by obtain ⟨_,rfl⟩:=hinv _ _ hts; rfl) (by omega) (by (repeat' (first | exact A0n _ | refine A0j ?_ ?_ | refine A0g ?_ ?_ | exact A0i _ | exact Qw7 | (show _<_; omega) | (intro c hc; cases hc; done) | (intro c hc; simp only [Qw,Qk,or_false] at hc; subst hc; first | exact Qw7 | (show _<_; omega)) | (intro c hc; simp only [Qw,Qk,or_false] at hc; rcases hc with rfl | rfl<;>first | exact Qw7 | (show _<_; omega))))) (by rintro _ _ ⟨rfl,-⟩; simp) (fun _ _ h=>h.elim) ?_ (fun l k ts H hts hI=> ?_) (fun H hI=> ?_) (fun e H h=>h.elim))
  ·exact ⟨by rw [hz]; rfl,trivial⟩
  ·obtain ⟨rfl,-⟩:=hI;obtain ⟨hk,rfl⟩:=hinv _ _ hts;have hs1:=hsu k;have hl1:=hll k;generalize hT2:tl (k+1)=T2 at*;generalize tl k=T at*;simp only [mask,A4u,List.zip_cons_cons,WV,List.zip_nil_left,List.foldl_cons,List.foldl_nil,List.set_cons_succ,List.set_cons_zero,ofT,A2T,A04,Xk,Zj,ofT,A2T,toT,A0t,A0a,A0k,A0z,A3o,tG,A0C,A0m,A0R];refine zRc (zc @A0e (zc @A2p (zc @hl1 Qw9))) Qw9 @A1p ?_;rw [<-hs1];refine ⟨⟨_,_⟩,Weak.head2 (m:=3) (by decide) ((fun t f=>[f,f,f,f,f,f,f,f,f,f,f,f,f,f,f,f,f,f,f,f,f,f,f,f,f]) true false) rfl rfl zW,?_,?_⟩
   ·rw [hT2]; rfl
   ·trivial
  ·obtain ⟨rfl,-⟩:=hI;rw [hil];simp only [mask];refine zR Qw9 Qw9 Qw9 ?_;simp [A0y,A0x,Blk.cells,ty,Tryz.results12,A0s,A0t,toT,A0d,A0b,A0c,A0a,A0k,A0m]
 ·rw [if_pos h0];generalize B0t r t=e at*;obtain ⟨n,es,ar⟩:=r;refine ACall.of_body Tryz.func12 rfl (by kernel_rfl) ?_;simp only [entry,Tryz.ntmps12,tR];refine zU ?_;refine zR (zc @h0 Qw9) (zc hg Qw9) Qw9 ?_;simp [A0y,A0x,Blk.cells,ty,Tryz.results12,A0s,A0t,toT,A0d,A0b,A0c,A0a,A0k,A0m,A0p]
def B5x (r:R) (t:List Int) (k:Nat):List Int:=B8k r.n.toNat (B7l (A6H t) (gR (endsL r.es)) (tourN r t) k)
def C2H (r:R) (t:List Int) (k:Nat):Bool:=C4D (A6H t) (tourN r t) k
theorem B1i (r:R) (t:List Int) (k:Nat):(B5x r t k).length=r.n.toNat:=A7N _ _
theorem A6B (r:R) (t:List Int) (k:Nat) {v:Nat} (hv:v<r.n.toNat):(B5x r t k)[v]? =some (B7l (A6H t) (gR (endsL r.es)) (tourN r t) k v):=B0Q _ hv
theorem B9Q (r:R) (t:List Int):B5x r t 0=List.replicate r.n.toNat 0:=by
 refine Zx fun v=> ?_;by_cases hv:v<r.n.toNat
 ·rw [A6B r t 0 hv,Qx0,if_pos hv]; rfl
 ·rw [Xq (by rw [B1i]; omega),Xq (by simp; omega)]
theorem B9R (r:R) (t:List Int) (k:Nat) (h:C2H r t k=false):B5x r t (k+1)=B5x r t k:=by
 unfold B5x;refine A9X fun v _=> ?_;unfold B7l;rw [sumR,if_neg (fun q=>by have:=q.1; unfold C2H at h; rw [h] at this; cases this)]; omega
theorem C2d (r:R) (t:List Int) (k:Nat) (h:C2H r t k=true) (hv:gR (endsL r.es) (tourN r t k)<r.n.toNat):(B5x r t k).set (gR (endsL r.es) (tourN r t k)) (B7l (A6H t) (gR (endsL r.es)) (tourN r t) k (gR (endsL r.es) (tourN r t k))+1)=B5x r t (k+1):=by
 unfold B5x;rw [C1f _ _ hv];refine A9X fun v _=> ?_;unfold C2H at h;by_cases e:v=gR (endsL r.es) (tourN r t k)
 ·subst e;rw [if_pos rfl];unfold B7l;rw [sumR,if_pos ⟨h,rfl⟩]
 ·rw [if_neg e];unfold B7l;rw [sumR,if_neg (fun q=>e q.2.symm)]; omega
theorem B1j (b:Nat->Bool) (g tn:Nat->Nat) (v:Nat): ∀k:Nat,0≤B7l b g tn k v∧B7l b g tn k v≤k
 | 0=>⟨Qx6 _,Qx6 _⟩
 | k+1=>by
  have:=B1j b g tn v k;unfold B7l at*;rw [sumR];split<;>omega
theorem B2A {r:R} {t:List Int} {k x:Nat}:((x:Nat):Int)∈tourL r t k↔x∈(List.range k).map (tourN r t):=by
 unfold tourL;rw [QJ,QJ];constructor
 ·rintro ⟨i,hi,e⟩; exact ⟨i,hi,by omega⟩
 ·rintro ⟨i,hi,rfl⟩; exact ⟨i,hi,rfl⟩
def A3B (tn:Nat->Nat):Nat->List Nat
 | 0=>[]
 | k+1=>if tn k / 2∈A3B tn k then A3B tn k else A3B tn k++[tn k / 2]
theorem A9j (tn:Nat->Nat) {x:Nat}: ∀k:Nat,x∈A3B tn k↔ ∃i,i<k∧tn i / 2=x
 | 0=>by simp [A3B]
 | k+1=>by
  have ih:=A9j tn (x:=x) k;rw [A3B];split
  ·rename_i h;rw [ih];constructor
   ·rintro ⟨i,hi,e⟩; exact ⟨i,by omega,e⟩
   ·rintro ⟨i,hi,e⟩;by_cases hik:i=k
    ·subst hik; rw [<-e]; exact (A9j tn _).1 h
    ·exact ⟨i,by omega,e⟩
  ·rw [XJ,ih,Zz];constructor
   ·rintro (⟨i,hi,e⟩ | e)
    ·exact ⟨i,by omega,e⟩
    ·exact ⟨k,by omega,e.symm⟩
   ·rintro ⟨i,hi,e⟩;by_cases hik:i=k
    ·subst hik; exact .inr e.symm
    ·exact .inl ⟨i,by omega,e⟩
theorem C2e {r:R} {t:List Int} (h:TourS r t) {k:Nat} (hk:k<2*(endsL r.es).length):C2H r t k=(!decide (((tourN r t k / 2:Nat):Int)∈t)&&decide (tourN r t k / 2∉A3B (tourN r t) k)):=by
 unfold C2H C4D A6H;congr 1;rw [decide_eq_decide,A9j];refine not_congr ?_;rw [QJ];constructor
 ·rintro ⟨i,hi,e⟩;exact ⟨i,XQ.1 hi,by rw [e,C5e]⟩
 ·rintro ⟨i,hi,e⟩;refine ⟨i,XQ.2 hi,?_⟩;rcases B6o e with q | q
  ·exact absurd (B2A.2 (QJ.2 ⟨i,XQ.2 hi,q⟩)) (h.new k hk)
  ·exact q
theorem C52 {l:List Nat} {x:Nat} (h:x∈l) (z:MV):A6M (mB l) (.int (x:Int)) z= .c (.bool true):=by
 have hi: ∃i,mIdx (mB l) (.int (x:Int))=some i:=by
  cases hx:mIdx (mB l) (.int (x:Int)) with
  | some i=>exact ⟨i,rfl⟩
  | none=>
   unfold mIdx at hx;rw [List.findIdx?_eq_none_iff] at hx;have:=hx (.int (x:Int),.c (.bool true)) (QJ.2 ⟨x,h,rfl⟩);simp at this
 obtain ⟨i,hi⟩:=hi;obtain ⟨v,hv⟩:=B10 hi;have hm:=Qy hv;obtain ⟨y,_,e⟩:=QJ.1 hm;injection e with e1 e2;simp [A6M,hi,hv,<-e2]
theorem A25 (r:R) (t:List Int) (hs:RSm r) (h:RTree r t) (htl:t.length<2^40):ACall Tryz.prog 56 [tR r,A0m t] (A0m (B5x r t (2*(endsL r.es).length))):=by
 have hr:=h.ok;have hw:=B28 r t;have hIt:=B5s r t hs h htl;have hinv:=fun k ts h=>B27 (r:=r) (t:=t) (k:=k) (ts:=ts) h;have hil:=A68 r t;have hlen:(endsL r.es).length≤2000:=A1B (g:=r.g) hs.es hr.c;have h12:=(A0h.1 hr.c).1;have hdl:=B1i r t;have hdg:=fun k v hv=>A6B r t k (v:=v) hv;have hdz:=B9Q r t;have hsk:=B9R r t;have hpu:=C2d r t;have hrg:=fun v k=>B1j (A6H t) (gR (endsL r.es)) (tourN r t) v k;have hgl:=(A59 hr).lt;have hlt: ∀k,k<2*(endsL r.es).length->tourN r t k<2*(endsL r.es).length:=fun k hk=>(h.tourS (by omega)).lt k hk;have hcn: ∀k,k<2*(endsL r.es).length->C2H r t k=(!decide (((tourN r t k / 2:Nat):Int)∈t)&&decide (tourN r t k / 2∉A3B (tourN r t) k)):=fun k hk=>C2e (h.tourS (by omega)) hk;obtain ⟨nN,hnN⟩:=XW (show 0≤r.n by show 0≤r.g.n; omega);have h12':1≤nN∧nN≤12:=by have:r.g.n=r.n:=rfl; omega
 clear h hr;generalize A90 r t=xs at*;generalize B5x r t=dl at*;generalize C2H r t=cn at*;generalize tourN r t=tn at*;obtain ⟨n,es,ar⟩:=r;simp only at*;subst hnN;generalize endsL es=L at*;simp only [Int.toNat_natCast] at*;generalize B7l (A6H t) (gR L) tn=dT at*;have hne: ∀k,iC (dl k)≠[]:=fun k=>by
  intro e;have h1:(iC (dl k)).length=0:=by rw [e]; rfl
  rw [A12,hdl k] at h1; omega
 have hnI:(0:Int)≤(nN:Int):=by omega
 refine ACall.of_body Tryz.func56 rfl (by kernel_rfl) ?_;simp only [entry,Tryz.ntmps56,tR,A0m];refine zU ?_;refine zJ (stop 2) (zc @A1P (zc @Xy Qw9)) Qw9 Qw9 Qw9 ?_;rw [<-hdz]
 repeat' (first|((with_reducible refine AWp.seq (AWp.of_reg (id:=2) (AReg.pre 1 (fun K hK=>?_))));simp only [List.take_succ_cons,List.take_zero])|((with_reducible refine AWp.of_reg (id:=2) (AReg.pre 1 (fun K hK=>?_)));simp only [List.take_succ_cons,List.take_zero])|((first|(refine zT ?_;intro K' hK')|(refine zG ?_ ?_<;>(try refine zH ?_)<;>intro hguard<;>(try exact zX)<;>try intro K' hK'))<;>((try simp+contextual only [go_sem]);(repeat' first|(with_reducible refine hK' _ _ ?_;clear hK' K')|exact zY|with_reducible refine Qw8 ?_ ?_|(with_reducible intro hpath;try exact zP)|(refine hK' _ _ ?_;clear hK' K')|fail);try refine zS ?_))|(refine zE ?_;refine hK _ _ ?_;clear hK K)|(refine zN ?_;try refine zS ?_)|refine zA ?_|(refine zB ?_;intro K hK)|(refine zC ?_ ?_<;>(try refine zH ?_)<;>intro hcond<;>try exact zX)|fail)
 simp only [Zw,ZW];refine AReg.allocR (z:= .map none) rfl rfl rfl (by simp only [ty]) rfl ?_;simp only [A1f,List.set_cons_succ,List.set_cons_zero,List.length_cons,List.length_nil,Nat.reduceAdd,List.cons_append,List.nil_append];refine AReg.rest (fun K hK=> ?_)
 repeat' (first|((first|(refine zT ?_;intro K' hK')|(refine zG ?_ ?_<;>(try refine zH ?_)<;>intro hguard<;>(try exact zX)<;>try intro K' hK'))<;>((try simp+contextual only [go_sem,tR,A0m,ofT,A2T,A04,Xk,Zj]);(repeat' first|(with_reducible refine hK' _ _ ?_;clear hK' K')|(with_reducible refine zK hw ?_;try simp+contextual only [go_sem,tR,A0m,ofT,A2T,A04,Xk,Zj])|exact zY|with_reducible refine Qw8 ?_ ?_|(with_reducible intro hpath;try exact zP)|(refine hK' _ _ ?_;clear hK' K')|fail);try refine zS ?_))|(refine zE ?_;refine hK _ _ ?_;clear hK K)|(refine zN ?_;try refine zS ?_)|refine zA ?_|(refine zB ?_;intro K hK)|(refine zC ?_ ?_<;>(try refine zH ?_)<;>intro hcond<;>try exact zX)|fail)
 refine AWp.weak (Weak.head (m:=6) (by omega) ((fun t f=>[f,f,t,t,f,t,t,f,f,f,f,f,f,f,f,f,f,t,f,f,f,f,f,f,f,f,f,f,f,f,f,f,f,f,f,f,f,f,f]) true false) (by first | rfl | simp [mask]) (by first | rfl | simp) (by (repeat' (first | exact A0n _ | refine A0j ?_ ?_ | refine A0g ?_ ?_ | exact A0i _ | exact Qw7 | (show _<_; omega) | (intro c hc; cases hc; done) | (intro c hc; simp only [Qw,Qk,or_false] at hc; subst hc; first | exact Qw7 | (show _<_; omega)) | (intro c hc; simp only [Qw,Qk,or_false] at hc; rcases hc with rfl | rfl<;>first | exact Qw7 | (show _<_; omega))))) (by (repeat' (first | exact A0n _ | exact A0v _ | exact A0i _ | refine Qw8 ?_ ?_ | refine A0j ?_ ?_ | refine A0l ?_ ?_ | refine A0g ?_ ?_ | exact Qw7 | (show _<_; omega) | exact A0q (fun _=>Qw7) | (intro c hc; cases hc; done) | (intro c hc; simp only [Qw,Qk,or_false] at hc; subst hc; first | exact Qw7 | (show _<_; omega)) | (intro c hc; simp only [Qw,Qk,or_false] at hc; rcases hc with rfl | rfl<;>first | exact Qw7 | (show _<_; omega)))))) (AWp.rangeFunc (fun k H=>H=[.box [.int .i64 (nN:Int),.slice (A0f es) .none,.slice (A00 ar) .none],.box [.slice (A0p t) .none],.box (iC (dl k)),.box [.ref 2 1 0 nN nN],.map (mB (A3B tn k)),.box [.map 4]]∧(True)) (fun _ _=>False) 6 rfl (hIt) (fun k ts hts=>by obtain ⟨_,rfl⟩:=hinv _ _ hts; rfl) (by omega) (by (repeat' (first | exact A0n _ | refine A0j ?_ ?_ | refine A0g ?_ ?_ | exact A0i _ | exact Qw7 | (show _<_; omega) | (intro c hc; cases hc; done) | (intro c hc; simp only [Qw,Qk,or_false] at hc; subst hc; first | exact Qw7 | (show _<_; omega)) | (intro c hc; simp only [Qw,Qk,or_false] at hc; rcases hc with rfl | rfl<;>first | exact Qw7 | (show _<_; omega))))) (by rintro _ _ ⟨rfl,-⟩; simp [hne]) (fun _ _ h=>h.elim) ?_ (fun l k ts H hts hI=> ?_) (fun H hI=> ?_) (fun e H h=>h.elim))
 ·exact ⟨rfl,trivial⟩
 ·obtain ⟨rfl,-⟩:=hI;obtain ⟨hkl,rfl⟩:=hinv _ _ hts;have hx:=hlt k hkl;have hv:=hgl _ hx;have c2:=A3d t ((tn k / 2:Nat):Int) htl;have hd:(((tn k:Nat):Int)).tdiv 2=((tn k / 2:Nat):Int):=rfl;have hc:=hcn k hkl;have hsn:A3B tn (k+1)=if tn k / 2∈A3B tn k then A3B tn k else A3B tn k++[tn k / 2]:=rfl
  have hl0:=hdl k;have hg0:=hdg k _ hv;have hr0:=hrg (gR L (tn k)) k;have hs0:=hsk k;have hp0:=hpu k;have hvI:((gR L (tn k):Nat):Int)<(nN:Int):=by omega
  clear hsk hpu hdl hdg hrg hcn hIt;by_cases hseen:tn k / 2∈A3B tn k
  ·rw [if_pos hseen] at hsn;have hval:=C52 hseen (.c (.bool false));have hcf:cn k=false:=by rw [hc]; simp [hseen]
   have hdd:=hs0 hcf;generalize hS2:A3B tn (k+1)=S2 at*;generalize A3B tn k=S at*;generalize hD2:dl (k+1)=D2 at*;generalize dl k=D at*;generalize tn k=x at*;subst hsn hdd;simp only [mask,A4u,List.zip_cons_cons,WV,List.zip_nil_left,List.foldl_cons,List.foldl_nil,List.set_cons_succ,List.set_cons_zero,ofT,A2T,A04,Xk,Zj,ofT,A2T,toT,A0t,A0a,A0k,A0z,A3o,tG,A0C,A0m,A0R]
   repeat' (first|((first|(refine zT ?_;intro K' hK')|(refine zG ?_ ?_<;>(try refine zH ?_)<;>intro hguard<;>(try exact zX)<;>try intro K' hK'))<;>((try simp+contextual only [go_sem,hd,hval,A15]);(repeat' first|(with_reducible refine hK' _ _ ?_;clear hK' K')|(refine ⟨_,A7A,rfl,C3Q,?_⟩ ; try simp+contextual only [go_sem,hd,hval,A15])|exact zY|with_reducible refine Qw8 ?_ ?_|(with_reducible intro hpath;try exact zP)|(refine hK' _ _ ?_;clear hK' K')|fail);try refine zS ?_))|(refine zE ?_;refine hK _ _ ?_;clear hK K)|(refine zN ?_;try refine zS ?_)|refine zA ?_|(refine zB ?_;intro K hK)|(refine zC ?_ ?_<;>(try refine zH ?_)<;>intro hcond<;>try exact zX)|fail)
   refine ⟨⟨_,_⟩,Weak.head2 (m:=6) (by decide) ((fun t f=>[f,f,f,f,f,f,f,f,f,f,f,f,f,f,f,f,f,f,f,f,f,f,f,f,f,f,f,f,f,f,f,f,f,f,f,f,f,f,f]) true false) rfl rfl zW,?_,?_⟩
   ·rw [hS2,hD2]; rfl
   ·trivial
  ·rw [if_neg hseen] at hsn;have hval:=C5z hseen (.c (.bool false));have hput:=C50 hseen;rw [<-hsn] at hput;by_cases hm:((tn k / 2:Nat):Int)∈t
   ·rw [decide_eq_true hm] at c2;have hcf:cn k=false:=by rw [hc,decide_eq_true hm]; simp
    have hdd:=hs0 hcf;generalize hS2:A3B tn (k+1)=S2 at*;generalize A3B tn k=S at*;generalize hD2:dl (k+1)=D2 at*;generalize dl k=D at*;generalize tn k=x at*;subst hdd;simp only [mask,A4u,List.zip_cons_cons,WV,List.zip_nil_left,List.foldl_cons,List.foldl_nil,List.set_cons_succ,List.set_cons_zero,ofT,A2T,A04,Xk,Zj,ofT,A2T,toT,A0t,A0a,A0k,A0z,A3o,tG,A0C,A0m,A0R]
    repeat' (first|((first|(refine zT ?_;intro K' hK')|(refine zG ?_ ?_<;>(try refine zH ?_)<;>intro hguard<;>(try exact zX)<;>try intro K' hK'))<;>((try simp+contextual only [go_sem,hd,hval,hput,A15]);(repeat' first|(with_reducible refine hK' _ _ ?_;clear hK' K')|(with_reducible refine zK c2 ?_;try simp+contextual only [go_sem,hd,hval,hput,A15])|(refine ⟨_,A7A,rfl,C3Q,?_⟩ ; try simp+contextual only [go_sem,hd,hval,hput,A15])|exact zY|with_reducible refine Qw8 ?_ ?_|(with_reducible intro hpath;try exact zP)|(refine hK' _ _ ?_;clear hK' K')|fail);try refine zS ?_))|(refine zE ?_;refine hK _ _ ?_;clear hK K)|(refine zN ?_;try refine zS ?_)|refine zA ?_|(refine zB ?_;intro K hK)|(refine zC ?_ ?_<;>(try refine zH ?_)<;>intro hcond<;>try exact zX)|fail)
    refine ⟨⟨_,_⟩,Weak.head2 (m:=6) (by decide) ((fun t f=>[f,f,f,f,f,f,f,f,f,f,f,f,f,f,f,f,f,f,f,f,f,f,f,f,f,f,f,f,f,f,f,f,f,f,f,f,f,f,f]) true false) rfl rfl zW,?_,?_⟩
    ·rw [hS2,hD2]; rfl
    ·trivial
   ·rw [decide_eq_false hm] at c2;have hct:cn k=true:=by rw [hc,decide_eq_false hm,decide_eq_true hseen]; rfl
    have hpp:=hp0 hct hv;have hi0:=A6t hg0;have hst:=A9V (dl k) (gR L (tn k)) (dT k (gR L (tn k))+1);rw [hpp] at hst;generalize hS2:A3B tn (k+1)=S2 at*;generalize A3B tn k=S at*;generalize hD2:dl (k+1)=D2 at*;generalize dT k (gR L (tn k))=c at*;generalize dl k=D at*;generalize gR L (tn k)=v at*;generalize tn k=x at*;simp only [mask,A4u,List.zip_cons_cons,WV,List.zip_nil_left,List.foldl_cons,List.foldl_nil,List.set_cons_succ,List.set_cons_zero,ofT,A2T,A04,Xk,Zj,ofT,A2T,toT,A0t,A0a,A0k,A0z,A3o,tG,A0C,A0m,A0R]
    repeat' (first|((first|(refine zT ?_;intro K' hK')|(refine zG ?_ ?_<;>(try refine zH ?_)<;>intro hguard<;>(try exact zX)<;>try intro K' hK'))<;>((try simp+contextual only [go_sem,hd,hval,hput,A15,hi0,hst,hl0,hvI,A12,Int.toNat_natCast,Yj,Xy]);(repeat' first|(with_reducible refine hK' _ _ ?_;clear hK' K')|(with_reducible refine zK c2 ?_;try simp+contextual only [go_sem,hd,hval,hput,A15,hi0,hst,hl0,hvI,A12,Int.toNat_natCast,Yj,Xy])|(refine ⟨_,A7A,rfl,C3Q,?_⟩ ; try simp+contextual only [go_sem,hd,hval,hput,A15,hi0,hst,hl0,hvI,A12,Int.toNat_natCast,Yj,Xy])|exact zY|with_reducible refine Qw8 ?_ ?_|(with_reducible intro hpath;try exact zP)|(refine hK' _ _ ?_;clear hK' K')|fail);try refine zS ?_))|(refine zE ?_;refine hK _ _ ?_;clear hK K)|(refine zN ?_;try refine zS ?_)|refine zA ?_|(refine zB ?_;intro K hK)|(refine zC ?_ ?_<;>(try refine zH ?_)<;>intro hcond<;>try exact zX)|fail)
    refine ⟨⟨_,_⟩,Weak.head2 (m:=6) (by decide) ((fun t f=>[f,f,f,f,f,f,f,f,f,f,f,f,f,f,f,f,f,f,f,f,f,f,f,f,f,f,f,f,f,f,f,f,f,f,f,f,f,f,f]) true false) rfl rfl zW,?_,?_⟩
    ·rw [hS2,hD2]; rfl
    ·trivial
 ·obtain ⟨rfl,-⟩:=hI;rw [hil];have hl1:=hdl (2*L.length);clear hsk hpu hdl hdg hrg hcn hIt hne;generalize dl (2*L.length)=d at*;generalize mB (A3B tn (2*L.length))=mm at*;have hr0:A0d [.box [.int .i64 (nN:Int),.slice (A0f es) .none,.slice (A00 ar) .none],.box [.slice (A0p t) .none],.box (iC d),.box [.ref 2 1 0 nN nN],.map mm,.box [.map 4]] (.ref 2 1 0 nN nN)=some (.slice (A0p d)):=B0o hl1 rfl;simp only [mask];refine zR Qw9 Qw9 Qw9 ?_;simp [A0y,A0x,Tryz.results56,A0s,A0t,toT,hr0,A0m]
def sC (O:List (List Int)):List ACell:=O.map fun x=> .slice (A0p x) .none
theorem C4o {m:Nat} {O:List (List Int)}:Go.Sp.cellsIn m (sC O):=fun c hc=>by
 obtain ⟨x,_,rfl⟩:=QJ.1 hc; exact Qw7
theorem C2I (O:List (List Int)):(sC O).length=O.length:=by simp [sC]
theorem C4p (O:List (List Int)):flatRows (A00 O)=sC O:=by
 unfold flatRows A00 sC
 induction O with
 | nil=>rfl
 | cons x l ih=>simp only [Xk,List.flatten_cons,Jv,Zj,List.singleton_append] at ih ⊢; rw [ih]; rfl
theorem C4q (O:List (List Int)):(sC O).mapM A0a=some (O.map fun x=>Tree.slice (A0p x))∧chunks 1 O.length (O.map fun x=>Tree.slice (A0p x))=A00 O:=by
 unfold sC;constructor
 ·induction O with
  | nil=>rfl
  | cons x l ih=>simp only [Xk,JX,ih]; rfl
 ·have h:=B3E (O.map fun x=>Tree.slice (A0p x));rw [Zq] at h;rw [h]; simp [A00]
end Go.Proofs.YtdbdfkohpjefjaaGreat
