/- A part of the proof. -/
import Derived.Test.YtdbdfkohpjefjaaGreatPart39
set_option linter.all false
set_option maxHeartbeats 4000000
set_option maxRecDepth 100000
namespace Go.Proofs.YtdbdfkohpjefjaaGreat
open Go.Sp
def B4D (r:R) (t:List Int) (k:Nat):List Int:=B7u r.n.toNat (B93 (A8N t) (gR (endsL r.es)) (tourN r t) k)
def C1E (r:R) (t:List Int) (k:Nat):Bool:=C5g (A8N t) (tourN r t) k
theorem B0P (r:R) (t:List Int) (k:Nat):(B4D r t k).length=r.n.toNat:=A74 _ _
theorem B4E (r:R) (t:List Int) (k:Nat) {v:Nat} (hv:v<r.n.toNat):(B4D r t k)[v]? =some (B93 (A8N t) (gR (endsL r.es)) (tourN r t) k v):=B0z _ hv
theorem B9e (r:R) (t:List Int):B4D r t 0=List.replicate r.n.toNat 0:=by
 refine XY fun v=> ?_;by_cases hv:v<r.n.toNat
 ·rw [B4E r t 0 hv,Qq9,if_pos hv]; rfl
 ·rw [QV (by rw [B0P]; omega),QV (by simp; omega)]
theorem B9f (r:R) (t:List Int) (k:Nat) (h:C1E r t k=false):B4D r t (k+1)=B4D r t k:=by
 unfold B4D;refine A97 fun v _=> ?_;unfold B93;rw [sumR,if_neg (fun q=>by have:=q.1; unfold C1E at h; rw [h] at this; cases this)]; omega
theorem C1d (r:R) (t:List Int) (k:Nat) (h:C1E r t k=true) (hv:gR (endsL r.es) (tourN r t k)<r.n.toNat):(B4D r t k).set (gR (endsL r.es) (tourN r t k)) (B93 (A8N t) (gR (endsL r.es)) (tourN r t) k (gR (endsL r.es) (tourN r t k))+1)=B4D r t (k+1):=by
 unfold B4D;rw [C0j _ _ hv];refine A97 fun v _=> ?_;unfold C1E at h;by_cases e:v=gR (endsL r.es) (tourN r t k)
 ·subst e;rw [if_pos rfl];unfold B93;rw [sumR,if_pos ⟨h,rfl⟩]
 ·rw [if_neg e];unfold B93;rw [sumR,if_neg (fun q=>e q.2.symm)]; omega
theorem B4F (b:Nat->Bool) (g tn:Nat->Nat) (v:Nat): ∀k:Nat,0≤B93 b g tn k v∧B93 b g tn k v≤k
 | 0=>⟨Qz7 _,Qz7 _⟩
 | k+1=>by
  have:=B4F b g tn v k;unfold B93 at*;rw [sumR];split<;>omega
theorem B9g {r:R} {t:List Int} {k x:Nat}:((x:Nat):Int)∈tourL r t k↔x∈(List.range k).map (tourN r t):=by
 unfold tourL;rw [Xq,Xq];constructor
 ·rintro ⟨i,hi,e⟩; exact ⟨i,hi,by omega⟩
 ·rintro ⟨i,hi,rfl⟩; exact ⟨i,hi,rfl⟩
def A3x (tn:Nat->Nat):Nat->List Nat
 | 0=>[]
 | k+1=>if tn k / 2∈A3x tn k then A3x tn k else A3x tn k++[tn k / 2]
theorem A8K (tn:Nat->Nat) {x:Nat}: ∀k:Nat,x∈A3x tn k↔ ∃i,i<k∧tn i / 2=x
 | 0=>by simp [A3x]
 | k+1=>by
  have ih:=A8K tn (x:=x) k;rw [A3x];split
  ·rename_i h;rw [ih];constructor
   ·rintro ⟨i,hi,e⟩; exact ⟨i,by omega,e⟩
   ·rintro ⟨i,hi,e⟩;by_cases hik:i=k
    ·subst hik; rw [<-e]; exact (A8K tn _).1 h
    ·exact ⟨i,by omega,e⟩
  ·rw [XZ,ih,XJ];constructor
   ·rintro (⟨i,hi,e⟩ | e)
    ·exact ⟨i,by omega,e⟩
    ·exact ⟨k,by omega,e.symm⟩
   ·rintro ⟨i,hi,e⟩;by_cases hik:i=k
    ·subst hik; exact .inr e.symm
    ·exact .inl ⟨i,by omega,e⟩
theorem C1e {r:R} {t:List Int} (h:TourS r t) {k:Nat} (hk:k<2*(endsL r.es).length):C1E r t k=(!decide (((tourN r t k / 2:Nat):Int)∈t)&&decide (tourN r t k / 2∉A3x (tourN r t) k)):=by
 unfold C1E C5g A8N;congr 1;rw [decide_eq_decide,A8K];refine not_congr ?_;rw [Xq];constructor
 ·rintro ⟨i,hi,e⟩;exact ⟨i,XQ.1 hi,by rw [e,C3R]⟩
 ·rintro ⟨i,hi,e⟩;refine ⟨i,XQ.2 hi,?_⟩;rcases B52 e with q | q
  ·exact absurd (B9g.2 (Xq.2 ⟨i,XQ.2 hi,q⟩)) (h.new k hk)
  ·exact q
theorem C4t {l:List Nat} {x:Nat} (h:x∈l) (z:MV):A61 (mB l) (.int (x:Int)) z= .c (.bool true):=by
 have hi: ∃i,mIdx (mB l) (.int (x:Int))=some i:=by
  cases hx:mIdx (mB l) (.int (x:Int)) with
  | some i=>exact ⟨i,rfl⟩
  | none=>
   unfold mIdx at hx;rw [List.findIdx?_eq_none_iff] at hx;have:=hx (.int (x:Int),.c (.bool true)) (Xq.2 ⟨x,h,rfl⟩);simp at this
 obtain ⟨i,hi⟩:=hi;obtain ⟨v,hv⟩:=B1g hi;have hm:=Qy hv;obtain ⟨y,_,e⟩:=Xq.1 hm;injection e with e1 e2;simp [A61,hi,hv,<-e2]
theorem A2w (r:R) (t:List Int) (hs:RSm r) (h:RTree r t) (htl:t.length<2^40):ACall Tryz.prog 56 [tR r,A0n t] (A0n (B4D r t (2*(endsL r.es).length))):=by
 have hr:=h.ok;have hw:=B2i r t;have hIt:=B4A r t hs h htl;have hinv:=fun k ts h=>B2h (r:=r) (t:=t) (k:=k) (ts:=ts) h;have hil:=A6p r t;have hlen:(endsL r.es).length≤2000:=A26 (g:=r.g) hs.es hr.c;have h12:=(A0j.1 hr.c).1;have hdl:=B0P r t;have hdg:=fun k v hv=>B4E r t k (v:=v) hv;have hdz:=B9e r t;have hsk:=B9f r t;have hpu:=C1d r t;have hrg:=fun v k=>B4F (A8N t) (gR (endsL r.es)) (tourN r t) v k;have hgl:=(A89 hr).lt;have hlt: ∀k,k<2*(endsL r.es).length->tourN r t k<2*(endsL r.es).length:=fun k hk=>(h.tourS (by omega)).lt k hk;have hcn: ∀k,k<2*(endsL r.es).length->C1E r t k=(!decide (((tourN r t k / 2:Nat):Int)∈t)&&decide (tourN r t k / 2∉A3x (tourN r t) k)):=fun k hk=>C1e (h.tourS (by omega)) hk;obtain ⟨nN,hnN⟩:=XV (show 0≤r.n by show 0≤r.g.n; omega);have h12':1≤nN∧nN≤12:=by have:r.g.n=r.n:=rfl; omega
 clear h hr;generalize A9a r t=xs at*;generalize B4D r t=dl at*;generalize C1E r t=cn at*;generalize tourN r t=tn at*;obtain ⟨n,es,ar⟩:=r;simp only at*;subst hnN;generalize endsL es=L at*;simp only [Int.toNat_natCast] at*;generalize B93 (A8N t) (gR L) tn=dT at*;have hne: ∀k,iC (dl k)≠[]:=fun k=>by
  intro e;have h1:(iC (dl k)).length=0:=by rw [e]; rfl
  rw [A11,hdl k] at h1; omega
 have hnI:(0:Int)≤(nN:Int):=by omega
 refine ACall.of_body Tryz.func56 rfl (by kernel_rfl) ?_;simp only [entry,Tryz.ntmps56,tR,A0n];refine zU ?_;refine zJ (stop 2) (zc @A1I (zc @Xk Qw8)) Qw8 Qw8 Qw8 ?_;rw [<-hdz]
 repeat' (first|((with_reducible refine AWp.seq (AWp.of_reg (id:=2) (AReg.pre 1 (fun K hK=>?_))));simp only [List.take_succ_cons,List.take_zero])|((with_reducible refine AWp.of_reg (id:=2) (AReg.pre 1 (fun K hK=>?_)));simp only [List.take_succ_cons,List.take_zero])|((first|(refine zT ?_;intro K' hK')|(refine zG ?_ ?_<;>(try refine zH ?_)<;>intro hguard<;>(try exact zX)<;>try intro K' hK'))<;>((try simp+contextual only [go_sem]);(repeat' first|(with_reducible refine hK' _ _ ?_;clear hK' K')|exact zY|with_reducible refine Qw7 ?_ ?_|(with_reducible intro hpath;try exact zP)|(refine hK' _ _ ?_;clear hK' K')|fail);try refine zS ?_))|(refine zE ?_;refine hK _ _ ?_;clear hK K)|(refine zN ?_;try refine zS ?_)|refine zA ?_|(refine zB ?_;intro K hK)|(refine zC ?_ ?_<;>(try refine zH ?_)<;>intro hcond<;>try exact zX)|fail)
 simp only [Zk,ZJ];refine AReg.allocR (z:= .map none) rfl rfl rfl (by simp only [ty]) rfl ?_;simp only [A1e,List.set_cons_succ,List.set_cons_zero,List.length_cons,List.length_nil,Nat.reduceAdd,List.cons_append,List.nil_append];refine AReg.rest (fun K hK=> ?_)
 repeat' (first|((first|(refine zT ?_;intro K' hK')|(refine zG ?_ ?_<;>(try refine zH ?_)<;>intro hguard<;>(try exact zX)<;>try intro K' hK'))<;>((try simp+contextual only [go_sem,tR,A0n,ofT,A2G,A03,Xy,Zx]);(repeat' first|(with_reducible refine hK' _ _ ?_;clear hK' K')|(with_reducible refine zK hw ?_;try simp+contextual only [go_sem,tR,A0n,ofT,A2G,A03,Xy,Zx])|exact zY|with_reducible refine Qw7 ?_ ?_|(with_reducible intro hpath;try exact zP)|(refine hK' _ _ ?_;clear hK' K')|fail);try refine zS ?_))|(refine zE ?_;refine hK _ _ ?_;clear hK K)|(refine zN ?_;try refine zS ?_)|refine zA ?_|(refine zB ?_;intro K hK)|(refine zC ?_ ?_<;>(try refine zH ?_)<;>intro hcond<;>try exact zX)|fail)
 refine AWp.weak (Weak.head (m:=6) (by omega) ((fun t f=>[f,f,t,t,f,t,t,f,f,f,f,f,f,f,f,f,f,t,f,f,f,f,f,f,f,f,f,f,f,f,f,f,f,f,f,f,f,f,f]) true false) (by first | rfl | simp [mask]) (by first | rfl | simp) (by (repeat' (first | exact A0l _ | refine A0i ?_ ?_ | refine A0g ?_ ?_ | exact A0h _ | exact Qw6 | (show _<_; omega) | (intro c hc; cases hc; done) | (intro c hc; simp only [Qw,Qv,or_false] at hc; subst hc; first | exact Qw6 | (show _<_; omega)) | (intro c hc; simp only [Qw,Qv,or_false] at hc; rcases hc with rfl | rfl<;>first | exact Qw6 | (show _<_; omega))))) (by (repeat' (first | exact A0l _ | exact A0r _ | exact A0h _ | refine Qw7 ?_ ?_ | refine A0i ?_ ?_ | refine A0k ?_ ?_ | refine A0g ?_ ?_ | exact Qw6 | (show _<_; omega) | exact A0p (fun _=>Qw6) | (intro c hc; cases hc; done) | (intro c hc; simp only [Qw,Qv,or_false] at hc; subst hc; first | exact Qw6 | (show _<_; omega)) | (intro c hc; simp only [Qw,Qv,or_false] at hc; rcases hc with rfl | rfl<;>first | exact Qw6 | (show _<_; omega)))))) (AWp.rangeFunc (fun k H=>H=[.box [.int .i64 (nN:Int),.slice (A0f es) .none,.slice (A0x ar) .none],.box [.slice (A0o t) .none],.box (iC (dl k)),.box [.ref 2 1 0 nN nN],.map (mB (A3x tn k)),.box [.map 4]]∧(True)) (fun _ _=>False) 6 rfl (hIt) (fun k ts hts=>by obtain ⟨_,rfl⟩:=hinv _ _ hts; rfl) (by omega) (by (repeat' (first | exact A0l _ | refine A0i ?_ ?_ | refine A0g ?_ ?_ | exact A0h _ | exact Qw6 | (show _<_; omega) | (intro c hc; cases hc; done) | (intro c hc; simp only [Qw,Qv,or_false] at hc; subst hc; first | exact Qw6 | (show _<_; omega)) | (intro c hc; simp only [Qw,Qv,or_false] at hc; rcases hc with rfl | rfl<;>first | exact Qw6 | (show _<_; omega))))) (by rintro _ _ ⟨rfl,-⟩; simp [hne]) (fun _ _ h=>h.elim) ?_ (fun l k ts H hts hI=> ?_) (fun H hI=> ?_) (fun e H h=>h.elim))
 ·exact ⟨rfl,trivial⟩
 ·obtain ⟨rfl,-⟩:=hI;obtain ⟨hkl,rfl⟩:=hinv _ _ hts;have hx:=hlt k hkl;have hv:=hgl _ hx;have c2:=A53 t ((tn k / 2:Nat):Int) htl;have hd:(((tn k:Nat):Int)).tdiv 2=((tn k / 2:Nat):Int):=rfl;have hc:=hcn k hkl;have hsn:A3x tn (k+1)=if tn k / 2∈A3x tn k then A3x tn k else A3x tn k++[tn k / 2]:=rfl
  have hl0:=hdl k;have hg0:=hdg k _ hv;have hr0:=hrg (gR L (tn k)) k;have hs0:=hsk k;have hp0:=hpu k;have hvI:((gR L (tn k):Nat):Int)<(nN:Int):=by omega
  clear hsk hpu hdl hdg hrg hcn hIt;by_cases hseen:tn k / 2∈A3x tn k
  ·rw [if_pos hseen] at hsn;have hval:=C4t hseen (.c (.bool false));have hcf:cn k=false:=by rw [hc]; simp [hseen]
   have hdd:=hs0 hcf;generalize hS2:A3x tn (k+1)=S2 at*;generalize A3x tn k=S at*;generalize hD2:dl (k+1)=D2 at*;generalize dl k=D at*;generalize tn k=x at*;subst hsn hdd;simp only [mask,A4e,List.zip_cons_cons,WQ,List.zip_nil_left,List.foldl_cons,List.foldl_nil,List.set_cons_succ,List.set_cons_zero,ofT,A2G,A03,Xy,Zx,ofT,A2G,toT,A0u,A0a,A0m,A0v,A3a,tG,A0B,A0n,A0N]
   repeat' (first|((first|(refine zT ?_;intro K' hK')|(refine zG ?_ ?_<;>(try refine zH ?_)<;>intro hguard<;>(try exact zX)<;>try intro K' hK'))<;>((try simp+contextual only [go_sem,hd,hval,A14]);(repeat' first|(with_reducible refine hK' _ _ ?_;clear hK' K')|(refine ⟨_,A7p,rfl,C2I,?_⟩ ; try simp+contextual only [go_sem,hd,hval,A14])|exact zY|with_reducible refine Qw7 ?_ ?_|(with_reducible intro hpath;try exact zP)|(refine hK' _ _ ?_;clear hK' K')|fail);try refine zS ?_))|(refine zE ?_;refine hK _ _ ?_;clear hK K)|(refine zN ?_;try refine zS ?_)|refine zA ?_|(refine zB ?_;intro K hK)|(refine zC ?_ ?_<;>(try refine zH ?_)<;>intro hcond<;>try exact zX)|fail)
   refine ⟨⟨_,_⟩,Weak.head2 (m:=6) (by decide) ((fun t f=>[f,f,f,f,f,f,f,f,f,f,f,f,f,f,f,f,f,f,f,f,f,f,f,f,f,f,f,f,f,f,f,f,f,f,f,f,f,f,f]) true false) rfl rfl zW,?_,?_⟩
   ·rw [hS2,hD2]; rfl
   ·trivial
  ·rw [if_neg hseen] at hsn;have hval:=C4j hseen (.c (.bool false));have hput:=C4k hseen;rw [<-hsn] at hput;by_cases hm:((tn k / 2:Nat):Int)∈t
   ·rw [decide_eq_true hm] at c2;have hcf:cn k=false:=by rw [hc,decide_eq_true hm]; simp
    have hdd:=hs0 hcf;generalize hS2:A3x tn (k+1)=S2 at*;generalize A3x tn k=S at*;generalize hD2:dl (k+1)=D2 at*;generalize dl k=D at*;generalize tn k=x at*;subst hdd;simp only [mask,A4e,List.zip_cons_cons,WQ,List.zip_nil_left,List.foldl_cons,List.foldl_nil,List.set_cons_succ,List.set_cons_zero,ofT,A2G,A03,Xy,Zx,ofT,A2G,toT,A0u,A0a,A0m,A0v,A3a,tG,A0B,A0n,A0N]
    repeat' (first|((first|(refine zT ?_;intro K' hK')|(refine zG ?_ ?_<;>(try refine zH ?_)<;>intro hguard<;>(try exact zX)<;>try intro K' hK'))<;>((try simp+contextual only [go_sem,hd,hval,hput,A14]);(repeat' first|(with_reducible refine hK' _ _ ?_;clear hK' K')|(with_reducible refine zK c2 ?_;try simp+contextual only [go_sem,hd,hval,hput,A14])|(refine ⟨_,A7p,rfl,C2I,?_⟩ ; try simp+contextual only [go_sem,hd,hval,hput,A14])|exact zY|with_reducible refine Qw7 ?_ ?_|(with_reducible intro hpath;try exact zP)|(refine hK' _ _ ?_;clear hK' K')|fail);try refine zS ?_))|(refine zE ?_;refine hK _ _ ?_;clear hK K)|(refine zN ?_;try refine zS ?_)|refine zA ?_|(refine zB ?_;intro K hK)|(refine zC ?_ ?_<;>(try refine zH ?_)<;>intro hcond<;>try exact zX)|fail)
    refine ⟨⟨_,_⟩,Weak.head2 (m:=6) (by decide) ((fun t f=>[f,f,f,f,f,f,f,f,f,f,f,f,f,f,f,f,f,f,f,f,f,f,f,f,f,f,f,f,f,f,f,f,f,f,f,f,f,f,f]) true false) rfl rfl zW,?_,?_⟩
    ·rw [hS2,hD2]; rfl
    ·trivial
   ·rw [decide_eq_false hm] at c2;have hct:cn k=true:=by rw [hc,decide_eq_false hm,decide_eq_true hseen]; rfl
    have hpp:=hp0 hct hv;have hi0:=A5Y hg0;have hst:=A94 (dl k) (gR L (tn k)) (dT k (gR L (tn k))+1);rw [hpp] at hst;generalize hS2:A3x tn (k+1)=S2 at*;generalize A3x tn k=S at*;generalize hD2:dl (k+1)=D2 at*;generalize dT k (gR L (tn k))=c at*;generalize dl k=D at*;generalize gR L (tn k)=v at*;generalize tn k=x at*;simp only [mask,A4e,List.zip_cons_cons,WQ,List.zip_nil_left,List.foldl_cons,List.foldl_nil,List.set_cons_succ,List.set_cons_zero,ofT,A2G,A03,Xy,Zx,ofT,A2G,toT,A0u,A0a,A0m,A0v,A3a,tG,A0B,A0n,A0N]
    repeat' (first|((first|(refine zT ?_;intro K' hK')|(refine zG ?_ ?_<;>(try refine zH ?_)<;>intro hguard<;>(try exact zX)<;>try intro K' hK'))<;>((try simp+contextual only [go_sem,hd,hval,hput,A14,hi0,hst,hl0,hvI,A11,Int.toNat_natCast,Yz,Xk]);(repeat' first|(with_reducible refine hK' _ _ ?_;clear hK' K')|(with_reducible refine zK c2 ?_;try simp+contextual only [go_sem,hd,hval,hput,A14,hi0,hst,hl0,hvI,A11,Int.toNat_natCast,Yz,Xk])|(refine ⟨_,A7p,rfl,C2I,?_⟩ ; try simp+contextual only [go_sem,hd,hval,hput,A14,hi0,hst,hl0,hvI,A11,Int.toNat_natCast,Yz,Xk])|exact zY|with_reducible refine Qw7 ?_ ?_|(with_reducible intro hpath;try exact zP)|(refine hK' _ _ ?_;clear hK' K')|fail);try refine zS ?_))|(refine zE ?_;refine hK _ _ ?_;clear hK K)|(refine zN ?_;try refine zS ?_)|refine zA ?_|(refine zB ?_;intro K hK)|(refine zC ?_ ?_<;>(try refine zH ?_)<;>intro hcond<;>try exact zX)|fail)
    refine ⟨⟨_,_⟩,Weak.head2 (m:=6) (by decide) ((fun t f=>[f,f,f,f,f,f,f,f,f,f,f,f,f,f,f,f,f,f,f,f,f,f,f,f,f,f,f,f,f,f,f,f,f,f,f,f,f,f,f]) true false) rfl rfl zW,?_,?_⟩
    ·rw [hS2,hD2]; rfl
    ·trivial
 ·obtain ⟨rfl,-⟩:=hI;rw [hil];have hl1:=hdl (2*L.length);clear hsk hpu hdl hdg hrg hcn hIt hne;generalize dl (2*L.length)=d at*;generalize mB (A3x tn (2*L.length))=mm at*;have hr0:A0d [.box [.int .i64 (nN:Int),.slice (A0f es) .none,.slice (A0x ar) .none],.box [.slice (A0o t) .none],.box (iC d),.box [.ref 2 1 0 nN nN],.map mm,.box [.map 4]] (.ref 2 1 0 nN nN)=some (.slice (A0o d)):=A9M hl1 rfl;simp only [mask];refine zR Qw8 Qw8 Qw8 ?_;simp [A0z,A0y,Tryz.results56,A0t,A0u,toT,hr0,A0n]
def A5q (r:R) (t:List Int):List Int:=B4D r t (2*(endsL r.es).length)
theorem B4G (r:R) (t:List Int):(A5q r t).length=r.n.toNat:=B0P _ _ _
theorem B2o (r:R) (t:List Int) (hs:RSm r) (htl:t.length<2^40):ACall Tryz.prog 14 [tR r,A0n t] (.tup [A0n (if B2w r t≠0 then [] else A5q r t),A0m (B2w r t)]):=by
 have hg:=A8H r t hs htl;by_cases h0:B2w r t=0
 ·rw [if_neg (by omega),h0];rw [h0] at hg;have hw:=A2w r t hs (B0L h0).1 htl;change ACall _ _ _ (A0n (A5q r t)) at hw;generalize A5q r t=T at*;obtain ⟨n,es,ar⟩:=r;refine ACall.of_body Tryz.func14 rfl (by kernel_rfl) ?_;simp only [entry,Tryz.ntmps14,tR];refine zU ?_;refine zR Qw8 (zc hg (zc hw Qw8)) Qw8 ?_;simp [A0z,A0y,Blk.cells,ty,Tryz.results14,A0t,A0u,toT,A0d,A0b,A0c,A0a,A0m,A0n]
 ·rw [if_pos h0];generalize B2w r t=e at*;obtain ⟨n,es,ar⟩:=r;refine ACall.of_body Tryz.func14 rfl (by kernel_rfl) ?_;simp only [entry,Tryz.ntmps14,tR];refine zU ?_;refine zR (zc @h0 Qw8) (zc hg Qw8) Qw8 ?_;simp [A0z,A0y,Blk.cells,ty,Tryz.results14,A0t,A0u,toT,A0d,A0b,A0c,A0a,A0m,A0n,A0o]
def C1f (r:R) (q:List Int->Bool) (Ts:List (List Int)):Option (List Int):=Ts.find? fun t=>q (A5q r t)
def B6e (o:Option (List Int)):List Int:=o.getD []
def B6f (o:Option (List Int)):Int:=if o.isSome then 0 else 6
theorem B9h (r:R) (hs:RSm r) (Ts:List (List Int)) (hl:Ts.length<2^30) (hT: ∀t,t∈Ts->RTree r t∧t.length<2^40) (f:Nat) (a:List Tree) (q:List Int->Bool)
  (hq: ∀t,t∈Ts->ACall Tryz.prog f [A0n (A5q r t),.t (.rptr a)] (A0v (q (A5q r t)))):
  ACall Tryz.prog 65 [tR r,A0N Ts,.t (.fn f [.rptr a])] (.tup [A0n (B6e (C1f r q Ts)),A0m (B6f (C1f r q Ts))]):=by
 have hD:=fun t (ht:t∈Ts)=>A2w r t hs (hT t ht).1 (hT t ht).2;have hdef: ∀t,B4D r t (2*(endsL r.es).length)=A5q r t:=fun _=>rfl;simp only [hdef] at hD;unfold C1f;generalize A5q r=dF at*;clear hT hs hdef;obtain ⟨n,es,ar⟩:=r;refine ACall.of_body Tryz.func65 rfl (by kernel_rfl) ?_;simp only [entry,Tryz.ntmps65,tR,A0N];refine zU ?_;refine zR (zc @A0q Qw8) Qw8 Qw8 ?_;refine AWp.loopS (α:=Nat) 23 (fun i=>[(2,.c (.fn f [.tree (.rptr a)])),(3,.c (.ptr 0 0)),(10,.c (.slice (A0x Ts) .none)),(11,.c (.int .i64 (Ts.length:Int))),(12,.c (.int .i64 (i:Int)))]) (fun i=>[.box [.int .i64 n,.slice (A0f es) .none,.slice (A0x ar) .none]]) (fun i=>i≤Ts.length∧(Ts.take i).find? (fun t=>q (dF t))=none) (fun i=>Ts.length-i) (0) (hk:=Weak.headL 1 23 [2,3,10,11,12] zW) (h0:=?_) (round:=fun i hI=>?_)
 ·exact ⟨Xj _,rfl⟩
 ·obtain ⟨hi,hI2⟩:=hI;by_cases hlt:i<Ts.length
  ·have hltI:(i:Int)<(Ts.length:Int):=by omega
   have e0:=Qq hlt;have e1:=A0X e0;have hm:=Xv hlt;have d1:=hD _ hm;have d2:=hq _ hm;have t1:Ts.take (i+1)=Ts.take i++[Ts[i]]:=XX hlt;have t2:Ts=Ts.take i++Ts[i]::Ts.drop (i+1):=by rw [List.getElem_cons_drop,Wy]
   generalize Ts[i]=x at*;by_cases hx:q (dF x)=true
   ·rw [hx] at d2;have hf:Ts.find? (fun t=>q (dF t))=some x:=by
     rw [t2,List.find?_append,hI2,List.find?_cons,hx]; rfl
    rw [hf];refine zR (zc @hltI (zc @A0q (zc @e1 Qw8))) (zc d1 (zc d2 Qw8)) Qw8 ?_;simp [A0z,A0y,Blk.cells,ty,Tryz.results65,A0t,A0u,toT,A0d,A0b,A0c,A0a,A0m,A0n,B6e,B6f]
   ·have hx:q (dF x)=false:=by simpa using hx
    rw [hx] at d2;refine zR (zc @hltI (zc @A0q (zc @e1 Qw8))) (zc d1 (zc d2 Qw8)) Qw8 ?_;refine ⟨i+1,Weak.headN 1 23 [2,3,10,11,12] zW,?_,?_⟩
    ·exact ⟨hlt,by rw [t1,List.find?_append,hI2,List.find?_cons,hx]; rfl⟩
    ·omega
  ·have ei:i=Ts.length:=by omega
   rw [ei,Zw] at hI2;rw [hI2];have hnl: ¬((i:Int)<(Ts.length:Int)):=by omega
   refine zR (zc @hnl (zc @A0q Qw8)) Qw8 Qw8 ?_;simp [A0z,A0y,Blk.cells,ty,Tryz.results65,A0t,A0u,toT,A0d,A0b,A0c,A0a,A0m,A0n,A0o,B6e,B6f]
theorem B9i (r:R) (hs:RSm r) (Ts:List (List Int)) (hl:Ts.length<2^30) (hT: ∀t,t∈Ts->RTree r t∧t.length<2^40) (f:Nat) (a b:List Tree) (q:List Int->Bool)
  (hq: ∀t,t∈Ts->ACall Tryz.prog f [A0n (A5q r t),.t (.rptr a),.t (.rptr b)] (A0v (q (A5q r t)))):
  ACall Tryz.prog 65 [tR r,A0N Ts,.t (.fn f [.rptr a,.rptr b])] (.tup [A0n (B6e (C1f r q Ts)),A0m (B6f (C1f r q Ts))]):=by
 have hD:=fun t (ht:t∈Ts)=>A2w r t hs (hT t ht).1 (hT t ht).2;have hdef: ∀t,B4D r t (2*(endsL r.es).length)=A5q r t:=fun _=>rfl;simp only [hdef] at hD;unfold C1f;generalize A5q r=dF at*;clear hT hs hdef;obtain ⟨n,es,ar⟩:=r;refine ACall.of_body Tryz.func65 rfl (by kernel_rfl) ?_;simp only [entry,Tryz.ntmps65,tR,A0N];refine zU ?_;refine zR (zc @A0q Qw8) Qw8 Qw8 ?_;refine AWp.loopS (α:=Nat) 23 (fun i=>[(2,.c (.fn f [.tree (.rptr a),.tree (.rptr b)])),(3,.c (.ptr 0 0)),(10,.c (.slice (A0x Ts) .none)),(11,.c (.int .i64 (Ts.length:Int))),(12,.c (.int .i64 (i:Int)))]) (fun i=>[.box [.int .i64 n,.slice (A0f es) .none,.slice (A0x ar) .none]]) (fun i=>i≤Ts.length∧(Ts.take i).find? (fun t=>q (dF t))=none) (fun i=>Ts.length-i) (0) (hk:=Weak.headL 1 23 [2,3,10,11,12] zW) (h0:=?_) (round:=fun i hI=>?_)
 ·exact ⟨Xj _,rfl⟩
 ·obtain ⟨hi,hI2⟩:=hI;by_cases hlt:i<Ts.length
  ·have hltI:(i:Int)<(Ts.length:Int):=by omega
   have e0:=Qq hlt;have e1:=A0X e0;have hm:=Xv hlt;have d1:=hD _ hm;have d2:=hq _ hm;have t1:Ts.take (i+1)=Ts.take i++[Ts[i]]:=XX hlt;have t2:Ts=Ts.take i++Ts[i]::Ts.drop (i+1):=by rw [List.getElem_cons_drop,Wy]
   generalize Ts[i]=x at*;by_cases hx:q (dF x)=true
   ·rw [hx] at d2;have hf:Ts.find? (fun t=>q (dF t))=some x:=by
     rw [t2,List.find?_append,hI2,List.find?_cons,hx]; rfl
    rw [hf];refine zR (zc @hltI (zc @A0q (zc @e1 Qw8))) (zc d1 (zc d2 Qw8)) Qw8 ?_;simp [A0z,A0y,Blk.cells,ty,Tryz.results65,A0t,A0u,toT,A0d,A0b,A0c,A0a,A0m,A0n,B6e,B6f]
   ·have hx:q (dF x)=false:=by simpa using hx
    rw [hx] at d2;refine zR (zc @hltI (zc @A0q (zc @e1 Qw8))) (zc d1 (zc d2 Qw8)) Qw8 ?_;refine ⟨i+1,Weak.headN 1 23 [2,3,10,11,12] zW,?_,?_⟩
    ·exact ⟨hlt,by rw [t1,List.find?_append,hI2,List.find?_cons,hx]; rfl⟩
    ·omega
  ·have ei:i=Ts.length:=by omega
   rw [ei,Zw] at hI2;rw [hI2];have hnl: ¬((i:Int)<(Ts.length:Int)):=by omega
   refine zR (zc @hnl (zc @A0q Qw8)) Qw8 Qw8 ?_;simp [A0z,A0y,Blk.cells,ty,Tryz.results65,A0t,A0u,toT,A0d,A0b,A0c,A0a,A0m,A0n,A0o,B6e,B6f]
end Go.Proofs.YtdbdfkohpjefjaaGreat
