/- A part of the proof. -/
import Derived.Test.YtdbdfkohpjefjaaGreatPart31
import Derived.Test.YtdbdfkohpjefjaaGreatPart32
set_option linter.all false
set_option maxHeartbeats 4000000
set_option maxRecDepth 100000
namespace Go.Proofs.YtdbdfkohpjefjaaGreat
open Go.Sp
def B2t (r:R) (t:List Int) (k:Nat):List Int:=B7i r.n.toNat (B8s (A7u t) (gR (endsL r.es)) (tourN r t) k)
def B8N (r:R) (t:List Int) (k:Nat):Bool:=C4n (A7u t) (tourN r t) k
theorem A7C (r:R) (t:List Int) (k:Nat):(B2t r t k).length=r.n.toNat:=A75 _ _
theorem B0H (r:R) (t:List Int) (k:Nat) {v:Nat} (hv:v<r.n.toNat):(B2t r t k)[v]? =some (B8s (A7u t) (gR (endsL r.es)) (tourN r t) k v):=B0y _ hv
theorem B2l (r:R) (t:List Int):B2t r t 0=List.replicate r.n.toNat 0:=by
 refine XZ fun v=> ?_;by_cases hv:v<r.n.toNat
 ·rw [B0H r t 0 hv,Qq6,if_pos hv]; rfl
 ·rw [QV (by rw [A7C]; omega),QV (by simp; omega)]
theorem B2m (r:R) (t:List Int) (k:Nat) (h:B8N r t k=false):B2t r t (k+1)=B2t r t k:=by
 unfold B2t;refine A97 fun v _=> ?_;unfold B8s;rw [sumR,if_neg (fun q=>by have:=q.1; unfold B8N at h; rw [h] at this; cases this)]; omega
theorem B48 (r:R) (t:List Int) (k:Nat) (h:B8N r t k=true) (hv:gR (endsL r.es) (tourN r t k)<r.n.toNat):(B2t r t k).set (gR (endsL r.es) (tourN r t k)) (B8s (A7u t) (gR (endsL r.es)) (tourN r t) k (gR (endsL r.es) (tourN r t k))+1)=B2t r t (k+1):=by
 unfold B2t;rw [B9P _ _ hv];refine A97 fun v _=> ?_;unfold B8N at h;by_cases e:v=gR (endsL r.es) (tourN r t k)
 ·subst e;rw [if_pos rfl];unfold B8s;rw [sumR,if_pos ⟨h,rfl⟩]
 ·rw [if_neg e];unfold B8s;rw [sumR,if_neg (fun q=>e q.2.symm)]; omega
theorem B0I (b:Nat->Bool) (g tn:Nat->Nat) (v:Nat): ∀k:Nat,0≤B8s b g tn k v∧B8s b g tn k v≤k
 | 0=>⟨Qx7 _,Qx7 _⟩
 | k+1=>by
  have:=B0I b g tn v k;unfold B8s at*;rw [sumR];split<;>omega
theorem B2n {r:R} {t:List Int} {k x:Nat}:((x:Nat):Int)∈tourL r t k↔x∈(List.range k).map (tourN r t):=by
 unfold tourL;rw [Xq,Xq];constructor
 ·rintro ⟨i,hi,e⟩; exact ⟨i,hi,by omega⟩
 ·rintro ⟨i,hi,rfl⟩; exact ⟨i,hi,rfl⟩
def A3q (tn:Nat->Nat):Nat->List Nat
 | 0=>[]
 | k+1=>if tn k / 2∈A3q tn k then A3q tn k else A3q tn k++[tn k / 2]
theorem A8P (tn:Nat->Nat) {x:Nat}: ∀k:Nat,x∈A3q tn k↔ ∃i,i<k∧tn i / 2=x
 | 0=>by simp [A3q]
 | k+1=>by
  have ih:=A8P tn (x:=x) k;rw [A3q];split
  ·rename_i h;rw [ih];constructor
   ·rintro ⟨i,hi,e⟩; exact ⟨i,by omega,e⟩
   ·rintro ⟨i,hi,e⟩;by_cases hik:i=k
    ·subst hik; rw [<-e]; exact (A8P tn _).1 h
    ·exact ⟨i,by omega,e⟩
  ·rw [XW,ih,Zz];constructor
   ·rintro (⟨i,hi,e⟩ | e)
    ·exact ⟨i,by omega,e⟩
    ·exact ⟨k,by omega,e.symm⟩
   ·rintro ⟨i,hi,e⟩;by_cases hik:i=k
    ·subst hik; exact .inr e.symm
    ·exact .inl ⟨i,by omega,e⟩
theorem C0M {r:R} {t:List Int} (h:TourS r t) {k:Nat} (hk:k<2*(endsL r.es).length):B8N r t k=(!decide (((tourN r t k / 2:Nat):Int)∈t)&&decide (tourN r t k / 2∉A3q (tourN r t) k)):=by
 unfold B8N C4n A7u;congr 1;rw [decide_eq_decide,A8P];refine not_congr ?_;rw [Xq];constructor
 ·rintro ⟨i,hi,e⟩;exact ⟨i,XJ.1 hi,by rw [e,C32]⟩
 ·rintro ⟨i,hi,e⟩;refine ⟨i,XJ.2 hi,?_⟩;rcases B5u e with q | q
  ·exact absurd (B2n.2 (Xq.2 ⟨i,XJ.2 hi,q⟩)) (h.new k hk)
  ·exact q
theorem C3S {l:List Nat} {x:Nat} (h:x∈l) (z:MV):A62 (mB l) (.int (x:Int)) z= .c (.bool true):=by
 have hi: ∃i,mIdx (mB l) (.int (x:Int))=some i:=by
  cases hx:mIdx (mB l) (.int (x:Int)) with
  | some i=>exact ⟨i,rfl⟩
  | none=>
   unfold mIdx at hx;rw [List.findIdx?_eq_none_iff] at hx;have:=hx (.int (x:Int),.c (.bool true)) (Xq.2 ⟨x,h,rfl⟩);simp at this
 obtain ⟨i,hi⟩:=hi;obtain ⟨v,hv⟩:=B1a hi;have hm:=Qy hv;obtain ⟨y,_,e⟩:=Xq.1 hm;injection e with e1 e2;simp [A62,hi,hv,<-e2]
theorem A2s (r:R) (t:List Int) (hs:RSm r) (h:RTree r t) (htl:t.length<2^40):ACall Tryz.prog 56 [tR r,A0m t] (A0m (B2t r t (2*(endsL r.es).length))):=by
 have hr:=h.ok;have hw:=B2c r t;have hIt:=B40 r t hs h htl;have hinv:=fun k ts h=>B2b (r:=r) (t:=t) (k:=k) (ts:=ts) h;have hil:=A6p r t;have hlen:(endsL r.es).length≤2000:=A1t (g:=r.g) hs.es hr.c;have h12:=(A0j.1 hr.c).1;have hdl:=A7C r t;have hdg:=fun k v hv=>B0H r t k (v:=v) hv;have hdz:=B2l r t;have hsk:=B2m r t;have hpu:=B48 r t;have hrg:=fun v k=>B0I (A7u t) (gR (endsL r.es)) (tourN r t) v k;have hgl:=(A7h hr).lt;have hlt: ∀k,k<2*(endsL r.es).length->tourN r t k<2*(endsL r.es).length:=fun k hk=>(h.tourS (by omega)).lt k hk;have hcn: ∀k,k<2*(endsL r.es).length->B8N r t k=(!decide (((tourN r t k / 2:Nat):Int)∈t)&&decide (tourN r t k / 2∉A3q (tourN r t) k)):=fun k hk=>C0M (h.tourS (by omega)) hk;obtain ⟨nN,hnN⟩:=XX (show 0≤r.n by show 0≤r.g.n; omega);have h12':1≤nN∧nN≤12:=by have:r.g.n=r.n:=rfl; omega
 clear h hr;generalize A9c r t=xs at*;generalize B2t r t=dl at*;generalize B8N r t=cn at*;generalize tourN r t=tn at*;obtain ⟨n,es,ar⟩:=r;simp only at*;subst hnN;generalize endsL es=L at*;simp only [Int.toNat_natCast] at*;generalize B8s (A7u t) (gR L) tn=dT at*;have hne: ∀k,iC (dl k)≠[]:=fun k=>by
  intro e;have h1:(iC (dl k)).length=0:=by rw [e]; rfl
  rw [A1s,hdl k] at h1; omega
 have hnI:(0:Int)≤(nN:Int):=by omega
 refine ACall.of_body Tryz.func56 rfl (by kernel_rfl) ?_;simp only [entry,Tryz.ntmps56,tR,A0m];refine zU ?_;refine zJ (stop 2) (zc @A1F (zc @Xk Qw6)) Qw6 Qw6 Qw6 ?_;rw [<-hdz]
 repeat' (first|((with_reducible refine AWp.seq (AWp.of_reg (id:=2) (AReg.pre 1 (fun K hK=>?_))));simp only [List.take_succ_cons,List.take_zero])|((with_reducible refine AWp.of_reg (id:=2) (AReg.pre 1 (fun K hK=>?_)));simp only [List.take_succ_cons,List.take_zero])|((first|(refine zT ?_;intro K' hK')|(refine zG ?_ ?_<;>(try refine zH ?_)<;>intro hguard<;>(try exact zX)<;>try intro K' hK'))<;>((try simp+contextual only [go_sem]);(repeat' first|(with_reducible refine hK' _ _ ?_;clear hK' K')|exact zY|with_reducible refine Qw5 ?_ ?_|(with_reducible intro hpath;try exact zP)|(refine hK' _ _ ?_;clear hK' K')|fail);try refine zS ?_))|(refine zE ?_;refine hK _ _ ?_;clear hK K)|(refine zN ?_;try refine zS ?_)|refine zA ?_|(refine zB ?_;intro K hK)|(refine zC ?_ ?_<;>(try refine zH ?_)<;>intro hcond<;>try exact zX)|fail)
 simp only [Zx,ZY];refine AReg.allocR (z:= .map none) rfl rfl rfl (by simp only [ty]) rfl ?_;simp only [A1e,List.set_cons_succ,List.set_cons_zero,List.length_cons,List.length_nil,Nat.reduceAdd,List.cons_append,List.nil_append];refine AReg.rest (fun K hK=> ?_)
 repeat' (first|((first|(refine zT ?_;intro K' hK')|(refine zG ?_ ?_<;>(try refine zH ?_)<;>intro hguard<;>(try exact zX)<;>try intro K' hK'))<;>((try simp+contextual only [go_sem,tR,A0m,ofT,A2A,A04,Xy,XV]);(repeat' first|(with_reducible refine hK' _ _ ?_;clear hK' K')|(with_reducible refine zK hw ?_;try simp+contextual only [go_sem,tR,A0m,ofT,A2A,A04,Xy,XV])|exact zY|with_reducible refine Qw5 ?_ ?_|(with_reducible intro hpath;try exact zP)|(refine hK' _ _ ?_;clear hK' K')|fail);try refine zS ?_))|(refine zE ?_;refine hK _ _ ?_;clear hK K)|(refine zN ?_;try refine zS ?_)|refine zA ?_|(refine zB ?_;intro K hK)|(refine zC ?_ ?_<;>(try refine zH ?_)<;>intro hcond<;>try exact zX)|fail)
 refine AWp.weak (A0r.head (m:=6) (by omega) ((fun t f=>[f,f,t,t,f,t,t,f,f,f,f,f,f,f,f,f,f,t,f,f,f,f,f,f,f,f,f,f,f,f,f,f,f,f,f,f,f,f,f]) true false) (by first | rfl | simp [mask]) (by first | rfl | simp) (by (repeat' (first | exact A0n _ | refine A0i ?_ ?_ | refine A0g ?_ ?_ | exact A0h _ | exact Qw4 | (show _<_; omega) | (intro c hc; cases hc; done) | (intro c hc; simp only [Qw,Qk,or_false] at hc; subst hc; first | exact Qw4 | (show _<_; omega)) | (intro c hc; simp only [Qw,Qk,or_false] at hc; rcases hc with rfl | rfl<;>first | exact Qw4 | (show _<_; omega))))) (by (repeat' (first | exact A0n _ | exact A0v _ | exact A0h _ | refine Qw5 ?_ ?_ | refine A0i ?_ ?_ | refine A0l ?_ ?_ | refine A0g ?_ ?_ | exact Qw4 | (show _<_; omega) | exact A0p (fun _=>Qw4) | (intro c hc; cases hc; done) | (intro c hc; simp only [Qw,Qk,or_false] at hc; subst hc; first | exact Qw4 | (show _<_; omega)) | (intro c hc; simp only [Qw,Qk,or_false] at hc; rcases hc with rfl | rfl<;>first | exact Qw4 | (show _<_; omega)))))) (AWp.rangeFunc (fun k H=>H=[.box [.int .i64 (nN:Int),.slice (A0f es) .none,.slice (A07 ar) .none],.box [.slice (A0o t) .none],.box (iC (dl k)),.box [.ref 2 1 0 nN nN],.map (mB (A3q tn k)),.box [.map 4]]∧(True)) (fun _ _=>False) 6 rfl (hIt) (fun k ts hts=>by obtain ⟨_,rfl⟩:=hinv _ _ hts; rfl) (by omega) (by (repeat' (first | exact A0n _ | refine A0i ?_ ?_ | refine A0g ?_ ?_ | exact A0h _ | exact Qw4 | (show _<_; omega) | (intro c hc; cases hc; done) | (intro c hc; simp only [Qw,Qk,or_false] at hc; subst hc; first | exact Qw4 | (show _<_; omega)) | (intro c hc; simp only [Qw,Qk,or_false] at hc; rcases hc with rfl | rfl<;>first | exact Qw4 | (show _<_; omega))))) (by rintro _ _ ⟨rfl,-⟩; simp [hne]) (fun _ _ h=>h.elim) ?_ (fun l k ts H hts hI=> ?_) (fun H hI=> ?_) (fun e H h=>h.elim))
 ·exact ⟨rfl,trivial⟩
 ·obtain ⟨rfl,-⟩:=hI;obtain ⟨hkl,rfl⟩:=hinv _ _ hts;have hx:=hlt k hkl;have hv:=hgl _ hx;have c2:=A5y t ((tn k / 2:Nat):Int) htl;have hd:(((tn k:Nat):Int)).tdiv 2=((tn k / 2:Nat):Int):=rfl;have hc:=hcn k hkl;have hsn:A3q tn (k+1)=if tn k / 2∈A3q tn k then A3q tn k else A3q tn k++[tn k / 2]:=rfl
  have hl0:=hdl k;have hg0:=hdg k _ hv;have hr0:=hrg (gR L (tn k)) k;have hs0:=hsk k;have hp0:=hpu k;have hvI:((gR L (tn k):Nat):Int)<(nN:Int):=by omega
  clear hsk hpu hdl hdg hrg hcn hIt;by_cases hseen:tn k / 2∈A3q tn k
  ·rw [if_pos hseen] at hsn;have hval:=C3S hseen (.c (.bool false));have hcf:cn k=false:=by rw [hc]; simp [hseen]
   have hdd:=hs0 hcf;generalize hS2:A3q tn (k+1)=S2 at*;generalize A3q tn k=S at*;generalize hD2:dl (k+1)=D2 at*;generalize dl k=D at*;generalize tn k=x at*;subst hsn hdd;simp only [mask,A3Y,List.zip_cons_cons,Wy,List.zip_nil_left,List.foldl_cons,List.foldl_nil,List.set_cons_succ,List.set_cons_zero,ofT,A2A,A04,Xy,XV,ofT,A2A,toT,A0u,A0a,A0k,A01,A2W,tG,A0C,A0m,A1i]
   repeat' (first|((first|(refine zT ?_;intro K' hK')|(refine zG ?_ ?_<;>(try refine zH ?_)<;>intro hguard<;>(try exact zX)<;>try intro K' hK'))<;>((try simp+contextual only [go_sem,hd,hval,A17]);(repeat' first|(with_reducible refine hK' _ _ ?_;clear hK' K')|(refine ⟨_,A7s,rfl,C2x,?_⟩ ; try simp+contextual only [go_sem,hd,hval,A17])|exact zY|with_reducible refine Qw5 ?_ ?_|(with_reducible intro hpath;try exact zP)|(refine hK' _ _ ?_;clear hK' K')|fail);try refine zS ?_))|(refine zE ?_;refine hK _ _ ?_;clear hK K)|(refine zN ?_;try refine zS ?_)|refine zA ?_|(refine zB ?_;intro K hK)|(refine zC ?_ ?_<;>(try refine zH ?_)<;>intro hcond<;>try exact zX)|fail)
   refine ⟨⟨_,_⟩,A0r.head2 (m:=6) (by decide) ((fun t f=>[f,f,f,f,f,f,f,f,f,f,f,f,f,f,f,f,f,f,f,f,f,f,f,f,f,f,f,f,f,f,f,f,f,f,f,f,f,f,f]) true false) rfl rfl zW,?_,?_⟩
   ·rw [hS2,hD2]; rfl
   ·trivial
  ·rw [if_neg hseen] at hsn;have hval:=C3N hseen (.c (.bool false));have hput:=C3O hseen;rw [<-hsn] at hput;by_cases hm:((tn k / 2:Nat):Int)∈t
   ·rw [decide_eq_true hm] at c2;have hcf:cn k=false:=by rw [hc,decide_eq_true hm]; simp
    have hdd:=hs0 hcf;generalize hS2:A3q tn (k+1)=S2 at*;generalize A3q tn k=S at*;generalize hD2:dl (k+1)=D2 at*;generalize dl k=D at*;generalize tn k=x at*;subst hdd;simp only [mask,A3Y,List.zip_cons_cons,Wy,List.zip_nil_left,List.foldl_cons,List.foldl_nil,List.set_cons_succ,List.set_cons_zero,ofT,A2A,A04,Xy,XV,ofT,A2A,toT,A0u,A0a,A0k,A01,A2W,tG,A0C,A0m,A1i]
    repeat' (first|((first|(refine zT ?_;intro K' hK')|(refine zG ?_ ?_<;>(try refine zH ?_)<;>intro hguard<;>(try exact zX)<;>try intro K' hK'))<;>((try simp+contextual only [go_sem,hd,hval,hput,A17]);(repeat' first|(with_reducible refine hK' _ _ ?_;clear hK' K')|(with_reducible refine zK c2 ?_;try simp+contextual only [go_sem,hd,hval,hput,A17])|(refine ⟨_,A7s,rfl,C2x,?_⟩ ; try simp+contextual only [go_sem,hd,hval,hput,A17])|exact zY|with_reducible refine Qw5 ?_ ?_|(with_reducible intro hpath;try exact zP)|(refine hK' _ _ ?_;clear hK' K')|fail);try refine zS ?_))|(refine zE ?_;refine hK _ _ ?_;clear hK K)|(refine zN ?_;try refine zS ?_)|refine zA ?_|(refine zB ?_;intro K hK)|(refine zC ?_ ?_<;>(try refine zH ?_)<;>intro hcond<;>try exact zX)|fail)
    refine ⟨⟨_,_⟩,A0r.head2 (m:=6) (by decide) ((fun t f=>[f,f,f,f,f,f,f,f,f,f,f,f,f,f,f,f,f,f,f,f,f,f,f,f,f,f,f,f,f,f,f,f,f,f,f,f,f,f,f]) true false) rfl rfl zW,?_,?_⟩
    ·rw [hS2,hD2]; rfl
    ·trivial
   ·rw [decide_eq_false hm] at c2;have hct:cn k=true:=by rw [hc,decide_eq_false hm,decide_eq_true hseen]; rfl
    have hpp:=hp0 hct hv;have hi0:=A5l hg0;have hst:=A8s (dl k) (gR L (tn k)) (dT k (gR L (tn k))+1);rw [hpp] at hst;generalize hS2:A3q tn (k+1)=S2 at*;generalize A3q tn k=S at*;generalize hD2:dl (k+1)=D2 at*;generalize dT k (gR L (tn k))=c at*;generalize dl k=D at*;generalize gR L (tn k)=v at*;generalize tn k=x at*;simp only [mask,A3Y,List.zip_cons_cons,Wy,List.zip_nil_left,List.foldl_cons,List.foldl_nil,List.set_cons_succ,List.set_cons_zero,ofT,A2A,A04,Xy,XV,ofT,A2A,toT,A0u,A0a,A0k,A01,A2W,tG,A0C,A0m,A1i]
    repeat' (first|((first|(refine zT ?_;intro K' hK')|(refine zG ?_ ?_<;>(try refine zH ?_)<;>intro hguard<;>(try exact zX)<;>try intro K' hK'))<;>((try simp+contextual only [go_sem,hd,hval,hput,A17,hi0,hst,hl0,hvI,A1s,Int.toNat_natCast,Yq,Xk]);(repeat' first|(with_reducible refine hK' _ _ ?_;clear hK' K')|(with_reducible refine zK c2 ?_;try simp+contextual only [go_sem,hd,hval,hput,A17,hi0,hst,hl0,hvI,A1s,Int.toNat_natCast,Yq,Xk])|(refine ⟨_,A7s,rfl,C2x,?_⟩ ; try simp+contextual only [go_sem,hd,hval,hput,A17,hi0,hst,hl0,hvI,A1s,Int.toNat_natCast,Yq,Xk])|exact zY|with_reducible refine Qw5 ?_ ?_|(with_reducible intro hpath;try exact zP)|(refine hK' _ _ ?_;clear hK' K')|fail);try refine zS ?_))|(refine zE ?_;refine hK _ _ ?_;clear hK K)|(refine zN ?_;try refine zS ?_)|refine zA ?_|(refine zB ?_;intro K hK)|(refine zC ?_ ?_<;>(try refine zH ?_)<;>intro hcond<;>try exact zX)|fail)
    refine ⟨⟨_,_⟩,A0r.head2 (m:=6) (by decide) ((fun t f=>[f,f,f,f,f,f,f,f,f,f,f,f,f,f,f,f,f,f,f,f,f,f,f,f,f,f,f,f,f,f,f,f,f,f,f,f,f,f,f]) true false) rfl rfl zW,?_,?_⟩
    ·rw [hS2,hD2]; rfl
    ·trivial
 ·obtain ⟨rfl,-⟩:=hI;rw [hil];have hl1:=hdl (2*L.length);clear hsk hpu hdl hdg hrg hcn hIt hne;generalize dl (2*L.length)=d at*;generalize mB (A3q tn (2*L.length))=mm at*;have hr0:A0e [.box [.int .i64 (nN:Int),.slice (A0f es) .none,.slice (A07 ar) .none],.box [.slice (A0o t) .none],.box (iC d),.box [.ref 2 1 0 nN nN],.map mm,.box [.map 4]] (.ref 2 1 0 nN nN)=some (.slice (A0o d)):=A8G hl1 rfl;simp only [mask];refine zR Qw6 Qw6 Qw6 ?_;simp [A0y,A0x,Tryz.results56,A0s,A0u,toT,hr0,A0m]
set_option maxHeartbeats 2000000
def pW (w:Nat) (v:Int):Bool:=decide (B8F w v.toNat=1)
theorem B8O (n w:Nat):zI (setN n w)=inL (pW w) n:=by
 unfold zI setN inL;rw [List.filter_map];congr 1
theorem C2H {n w:Nat} (h1:1≤w) (h2:w<2^n): ∃v,v<n∧B8F w v=1:=by
 refine ZJ fun hno=> ?_;have:w=0:=Nat.eq_of_testBit_eq fun i=>by
  rw [Nat.zero_testBit];by_cases hi:i<n
  ·by_cases hb:w.testBit i=true
   ·exact absurd ⟨i,hi,(B2e w i).2 hb⟩ hno
   ·simpa using hb
  ·exact Qj6 (ZZ h2 (Nat.pow_le_pow_right (by omega) (by omega)))
 omega
theorem C3T {n w:Nat} (h1:1≤w) (h2:w<2^n):inL (pW w) n≠[]:=by
 obtain ⟨v,hv,hb⟩:=C2H h1 h2;intro e;have:(v:Int)∈inL (pW w) n:=B3b.2 ⟨⟨by omega,by omega⟩,by unfold pW; rw [Int.toNat_natCast]; exact decide_eq_true hb⟩;rw [e] at this; cases this
theorem C3U {g:G} (hc:checkG g=0) (hl:g.es.length≤40):IndOk g:=by
 have hn:g.n=(g.n.toNat:Int):=by have:=(A0j.1 hc).1; omega
 refine ⟨fun w h1 h2=> ?_,fun w h1 h2=> ?_,fun w h1 h2=> ?_⟩
 all_goals have D:=(C2a hc hn (pW w)).2.2.2.2 (C3T h1 h2)
 ·rw [B8O]; exact D.1
 ·unfold indW; rw [B8O]; exact D.2.1
 ·unfold indW; rw [B8O]; have:=D.2.2.1; omega
section
variable {g:G} {n w:Nat}
end
set_option maxHeartbeats 2000000
section
variable {E n:Nat} {gf:Nat->Nat} {A A':Nat->Bool}
end
theorem A7j {g:G} (h:A0w g=0):checkG g=0∧connB g=true:=by
 unfold A0w at h;by_cases hc:checkG g=0
 ·rw [if_neg (by omega)] at h;by_cases hb:connB g=true
  ·exact ⟨hc,hb⟩
  ·rw [if_neg hb] at h; cases h
 ·rw [if_pos hc] at h; exact absurd h hc
theorem B2o (r:R) (t:List Int) (hs:RSm r) (h:RTree r t) (htl:t.length<2^40):ACall Tryz.prog 57 [tR r,A0m t] (A0m (B2t r t (2*(endsL r.es).length))):=by
 have hr:=h.ok;have hw:=B2a r t hs h htl;have hlen:(endsL r.es).length≤2000:=A1t (g:=r.g) hs.es hr.c;have h12:=(A0j.1 hr.c).1;have hdl:=A7C r t;have hdg:=fun k v hv=>B0H r t k (v:=v) hv;have hdz:=B2l r t;have hsk:=B2m r t;have hpu:=B48 r t;have hrg:=fun v k=>B0I (A7u t) (gR (endsL r.es)) (tourN r t) v k;have hgl:=(A7h hr).lt;have hlt: ∀k,k<2*(endsL r.es).length->tourN r t k<2*(endsL r.es).length:=fun k hk=>(h.tourS (by omega)).lt k hk;have hAt:=fun x hx=>B06 r.g hs.es hr.c x hx;have hgR: ∀x:Nat,x<2*(endsL r.es).length->atL (endsL r.es) x=((gR (endsL r.es) x:Nat):Int):=fun x hx=>by
  have:=A1y hr.c hx;unfold gR; omega
 have hget:=fun k i (h:i<k)=>B8B (r:=r) (t:=t) h;have htk: ∀i k,i≤k->(tourL r t k).take i=tourL r t i:=fun i k hik=>by
  unfold tourL; rw [<-List.map_take,List.take_range,Vj hik]
 have hll:=A6q r t;have hcn: ∀k,B8N r t k=(!decide (((tourN r t k / 2:Nat):Int)∈t)&& !decide (((oppH (tourN r t k):Nat):Int)∈tourL r t k)):=fun k=>by
  unfold B8N C4n A7u;congr 1;rw [<-decide_not,decide_eq_decide];exact not_congr B2n.symm
 obtain ⟨nN,hnN⟩:=XX (show 0≤r.n by show 0≤r.g.n; omega);have h12':1≤nN∧nN≤12:=by have:r.g.n=r.n:=rfl; omega
 clear h hr;generalize tourL r t=tl at*;generalize B2t r t=dl at*;generalize B8N r t=cn at*;generalize tourN r t=tn at*;obtain ⟨n,es,ar⟩:=r;simp only [R.g] at*;subst hnN;generalize endsL es=L at*;simp only [Int.toNat_natCast] at*;generalize B8s (A7u t) (gR L) tn=dT at*;have hne: ∀k,iC (dl k)≠[]:=fun k=>by
  intro e;have h1:(iC (dl k)).length=0:=by rw [e]; rfl
  rw [A1s,hdl k] at h1; omega
 have hnI:(0:Int)≤(nN:Int):=by omega
 refine ACall.of_body Tryz.func57 rfl (by kernel_rfl) ?_;simp only [entry,Tryz.ntmps57,tR,A0m];refine zU ?_;refine zJ (stop 2) (zc @A1F (zc @Xk Qw6)) Qw6 Qw6 Qw6 ?_;rw [<-hdz];refine zR Qw6 (zc hw Qw6) Qw6 ?_;refine AWp.loopS (α:=Nat) 58 (fun i=>[(1,.c (.slice (A0o t) .none)),(2,.c (.ptr 0 0)),(5,.c (.ref 1 1 0 nN nN)),(6,.c (.slice (A0o (tl (2*L.length))) .none)),(7,.c (.int .i64 (i:Int)))]) (fun i=>[.box [.int .i64 (nN:Int),.slice (A0f es) .none,.slice (A07 ar) .none],.box (iC (dl i))]) (fun i=>i≤2*L.length) (fun i=>2*L.length-i) (0) (hk:=A0r.headL 2 58 [1,2,5,6,7] zW) (h0:=?_) (round:=fun i hI=>?_)
 ·exact Xj _
 ·have hi:i≤2*L.length:=hI;clear hI;by_cases hil:i<2*L.length
  ·have hiI:(i:Int)<2*(L.length:Int):=by omega
   have hx:=hlt i hil;have hv:=hgl _ hx;have g0:=A0t (hget (2*L.length) i hil);have hlN:=hll (2*L.length);have hlNI:(((tl (2*L.length)).length:Nat):Int)=2*(L.length:Int):=by omega
   have htk0:=htk i (2*L.length) (by omega);have c1:=A6h t ((tn i / 2:Nat):Int) htl;have c2:=A6h (tl i) ((oppH (tn i):Nat):Int) (by rw [hll]; omega);have c3:=A8J (tn i) (by omega);have c4:=hAt _ hx;rw [hgR _ hx] at c4;have hd:(((tn i:Nat):Int)).tdiv 2=((tn i / 2:Nat):Int):=rfl;have hc:=hcn i;have hl0:=hdl i;have hg0:=hdg i _ hv;have hr0:=hrg (gR L (tn i)) i;have hs0:=hsk i;have hp0:=hpu i;have hvI:((gR L (tn i):Nat):Int)<(nN:Int):=by omega
   have hlI:=hll i;clear hsk hpu hdl hdg hrg hcn hAt hgR hget hll htk hne;have hti:(A0o (tl (2*L.length))).take i=A0o (tl i):=by rw [<-htk0]; unfold A0o; rw [List.map_take]
   generalize hTN:tl (2*L.length)=TN at*;by_cases hm:((tn i / 2:Nat):Int)∈t
   ·rw [decide_eq_true hm] at c1;have hdd:=hs0 (by rw [hc,decide_eq_true hm]; rfl);generalize hD2:dl (i+1)=D2 at*;generalize dl i=D at*;generalize tn i=x at*;subst hdd;refine zR (zc @hiI (zc @hd (zc @g0 (zc @hlNI (zc @hlN (zc @A0d Qw6)))))) (zc c1 Qw6) Qw6 ?_;refine ⟨i+1,A0r.headF 2 58 [1,2,5,6,7] (zc @hD2 Qw6) zW,?_,?_⟩
    ·exact hil
    ·omega
   ·rw [decide_eq_false hm] at c1;by_cases ho:((oppH (tn i):Nat):Int)∈tl i
    ·rw [decide_eq_true ho] at c2;have hdd:=hs0 (by rw [hc,decide_eq_true ho]; simp);generalize hD2:dl (i+1)=D2 at*;generalize dl i=D at*;generalize tn i=x at*;subst hdd
     repeat' (first|((first|(refine zT ?_;intro K' hK')|(refine zG ?_ ?_<;>(try refine zH ?_)<;>intro hguard<;>(try exact zX)<;>try intro K' hK'))<;>((try simp+contextual only [go_sem,hiI,hd,g0,hti,hlNI,hlN,A0d,Int.toNat_natCast,Yq]);(repeat' first|(with_reducible refine hK' _ _ ?_;clear hK' K')|((with_reducible first|refine zK c1 ?_|refine zK c2 ?_|refine zK c3 ?_);try simp+contextual only [go_sem,hiI,hd,g0,hti,hlNI,hlN,A0d,Int.toNat_natCast,Yq])|(with_reducible exact A1c (by assumption))|exact zY|with_reducible refine Qw5 ?_ ?_|(with_reducible intro hpath;try exact zP)|(refine hK' _ _ ?_;clear hK' K')|fail);try refine zS ?_))|(refine zE ?_;refine hK _ _ ?_;clear hK K)|(refine zN ?_;try refine zS ?_)|refine zA ?_|(refine zB ?_;intro K hK)|(refine zC ?_ ?_<;>(try refine zH ?_)<;>intro hcond<;>try exact zX)|fail)
     all_goals
      refine ⟨i+1,A0r.headF 2 58 [1,2,5,6,7] (zc @hD2 Qw6) zW,?_,?_⟩
      ·exact hil
      ·omega
    ·rw [decide_eq_false ho] at c2;have hpp:=hp0 (by rw [hc,decide_eq_false hm,decide_eq_false ho]; rfl) hv;have hi0:=A5l hg0;have hst:=A8s (dl i) (gR L (tn i)) (dT i (gR L (tn i))+1);rw [hpp] at hst;generalize hD2:dl (i+1)=D2 at*;generalize dT i (gR L (tn i))=c at*;generalize dl i=D at*;generalize gR L (tn i)=v at*;generalize tn i=x at*
     repeat' (first|((first|(refine zT ?_;intro K' hK')|(refine zG ?_ ?_<;>(try refine zH ?_)<;>intro hguard<;>(try exact zX)<;>try intro K' hK'))<;>((try simp+contextual only [go_sem,hiI,hd,g0,hti,hlNI,hlN,hi0,hst,hl0,hvI,A1s,A0d,Int.toNat_natCast,Yq,Xk]);(repeat' first|(with_reducible refine hK' _ _ ?_;clear hK' K')|((with_reducible first|refine zK c1 ?_|refine zK c2 ?_|refine zK c3 ?_|refine zK c4 ?_);try simp+contextual only [go_sem,hiI,hd,g0,hti,hlNI,hlN,hi0,hst,hl0,hvI,A1s,A0d,Int.toNat_natCast,Yq,Xk])|(with_reducible exact A1c (by assumption))|exact zY|with_reducible refine Qw5 ?_ ?_|(with_reducible intro hpath;try exact zP)|(refine hK' _ _ ?_;clear hK' K')|fail);try refine zS ?_))|(refine zE ?_;refine hK _ _ ?_;clear hK K)|(refine zN ?_;try refine zS ?_)|refine zA ?_|(refine zB ?_;intro K hK)|(refine zC ?_ ?_<;>(try refine zH ?_)<;>intro hcond<;>try exact zX)|fail)
     all_goals
      refine ⟨i+1,A0r.headF 2 58 [1,2,5,6,7] (zc @hD2 Qw6) zW,?_,?_⟩
      ·exact hil
      ·omega
  ·have ei:i=2*L.length:=by omega
   have hlN:=hll (2*L.length);have hlNI:(((tl (2*L.length)).length:Nat):Int)=2*(L.length:Int):=by omega
   have hnl: ¬((i:Int)<2*(L.length:Int)):=by omega
   subst ei;have hl1:=hdl (2*L.length);clear hsk hpu hdl hdg hrg hcn hAt hgR hget hll htk hne;generalize dl (2*L.length)=d at*;have hr0:A0e [.box [.int .i64 (nN:Int),.slice (A0f es) .none,.slice (A07 ar) .none],.box (iC d)] (.ref 1 1 0 nN nN)=some (.slice (A0o d)):=A8G hl1 rfl;generalize tl (2*L.length)=TN at*;refine zR (zc @hnl (zc @hlNI (zc @A0d Qw6))) Qw6 Qw6 ?_;simp [A0y,A0x,Tryz.results57,A0s,A0u,toT,hr0,A0m]
end Go.Proofs.YtdbdfkohpjefjaaGreat
