/- A part of the proof. -/
import Derived.Test.YtdbdfkohpjefjaaGreatPart37
import Derived.Test.YtdbdfkohpjefjaaGreatPart38
set_option linter.all false
set_option maxHeartbeats 4000000
set_option maxRecDepth 100000
namespace Go.Proofs.YtdbdfkohpjefjaaGreat
open Go.Sp
theorem B6S (n:Nat) (hn:n=1) (L:List (Int×Int)) (l:Nat) (J:Nat->Sig->World->Prop) (Jx:Sig->World->Prop) (hJ: ∀k,Clo (J k)) (hJx:Clo Jx)
  (hY:YStep Tryz.prog l (J 0) [A5S []] (J 1) Jx) (F:List Nat) (hfl:F.length=12) (H1:List Blk) (hG:GH l n L H1):
   ACallE Tryz.prog 126 (.ghost (J 0)::H1) ([.c .nils,.c (.int .i64 0),.agg (fC F)]++(growCaps n L).map A42)
    (fun H' r=> ∃X,(r= .c (.bool true)∧H'= .ghost (J 1)::(H1++X))∨(r= .c (.bool false)∧H'= .ghost Jx::(H1++X))):=by
 subst hn;refine ACallE.of_body Tryz.func126 rfl (by kernel_rfl) ?_;simp only [entry,growCaps,A42,A04,Xk,Zj,Tryz.ntmps126,List.length_cons,List.length_nil,Nat.reduceAdd,Nat.reduceSub,List.replicate_succ,List.replicate_zero,List.cons_append,List.nil_append];have hC:ACallH Tryz.prog 127 (.ghost (J 0)::(H1++[.box (fC F)])) [.c .nils] (.ghost (J 0)::(H1++[.box (fC F)])) (ofT (A5S [])):=ACall.h B6G rfl;have hy:=hG.yld [.box (fC F)];refine zJ (stop 2) (zc @A0V (zc @hfl Qw9)) Qw9 Qw9 Qw9 ?_;refine AWp.seq (AWp.of_adr (by kernel_rfl) ?_);refine ADr.seg' 3 2 [(18,.c (.yld l)),(19,.c .nils)] (by kernel_rfl) (by kernel_rfl) rfl (.inl ⟨rfl,(A2V _ _ _ rfl 127 [] rfl _ hC).n⟩) (zQ hy) (by rintro r H' ⟨rfl,rfl⟩; exact zQ hy) ?_;rintro r H' ⟨rfl,rfl⟩;simp only [A1d,A1f,aeval,YQ,Yy,List.set_cons_succ,List.set_cons_zero];refine ADr.one' (by kernel_rfl) rfl (.inl ⟨rfl,A9E (ts:=[A5S []]) rfl rfl rfl (okF hG.ok hfl) hY (hJ _) hJx⟩) ?_;rintro r H' (⟨rfl,rfl⟩ | ⟨rfl,rfl⟩)
 ·
  simp only [A1d,A1f,aeval,YQ,Yy,List.set_cons_succ,List.set_cons_zero];refine ADr.run 1 (by kernel_rfl) (by decide) (fun K hK=> ?_);simp only [Nat.reduceAdd,Zw,ZW,List.take_succ_cons,List.take_zero]
  repeat' (first|((first|(refine zT ?_;intro K' hK')|(refine zG ?_ ?_<;>(try refine zH ?_)<;>intro hguard<;>(try exact zX)<;>try intro K' hK'))<;>((try simp+contextual only [go_sem]);(repeat' first|(with_reducible refine hK' _ _ ?_;clear hK' K')|exact zY|with_reducible refine Qw8 ?_ ?_|(with_reducible intro hpath;try exact zP)|(refine hK' _ _ ?_;clear hK' K')|fail);try refine zS ?_))|(refine zE ?_;refine hK _ _ ?_;clear hK K)|(refine zN ?_;try refine zS ?_)|fail)
  try simp only [Nat.reduceAdd]
  refine ADr.done (by decide) ?_;refine zR Qw9 Qw9 Qw9 ?_;exact ⟨trivial,_,⟨_,.inl ⟨rfl,rfl⟩⟩,by simp [A1Y,A0s,A1X,Tryz.results126]⟩
 ·
  simp only [A1d,A1f,aeval,YQ,Yy,List.set_cons_succ,List.set_cons_zero];refine ADr.run 1 (by kernel_rfl) (by decide) (fun K hK=> ?_);simp only [Nat.reduceAdd,Zw,ZW,List.take_succ_cons,List.take_zero]
  repeat' (first|((first|(refine zT ?_;intro K' hK')|(refine zG ?_ ?_<;>(try refine zH ?_)<;>intro hguard<;>(try exact zX)<;>try intro K' hK'))<;>((try simp+contextual only [go_sem]);(repeat' first|(with_reducible refine hK' _ _ ?_;clear hK' K')|exact zY|with_reducible refine Qw8 ?_ ?_|(with_reducible intro hpath;try exact zP)|(refine hK' _ _ ?_;clear hK' K')|fail);try refine zS ?_))|(refine zE ?_;refine hK _ _ ?_;clear hK K)|(refine zN ?_;try refine zS ?_)|fail)
  try simp only [Nat.reduceAdd]
  refine ADr.done (by decide) ?_;refine zR Qw9 Qw9 Qw9 ?_;exact ⟨trivial,_,⟨_,.inr ⟨rfl,rfl⟩⟩,by simp [A1Y,A0s,A1X,Tryz.results126]⟩
noncomputable def allT (n:Nat) (L:List (Int×Int)):List (List Nat):=A17 n L L.length [] 0
noncomputable def A2E (n:Nat) (L:List (Int×Int)):List (List TVal):=(allT n L).map fun T=>[A5S T]
theorem B0z (n:Nat) (L:List (Int×Int)):(A2E n L).length=(allT n L).length:=by simp [A2E]
theorem B00 {n:Nat} {L:List (Int×Int)} {i:Nat} {ts:List TVal} (h:(A2E n L)[i]? =some ts): ∃T,(allT n L)[i]? =some T∧ts=[A5S T]:=by
 unfold A2E at h;rw [QY] at h;cases hx:(allT n L)[i]? with
 | none=>rw [hx] at h; cases h
 | some T=>rw [hx] at h; simp at h; exact ⟨T,rfl,h.symm⟩
theorem C0b {n:Nat} {L:List (Int×Int)} {m:Nat} (hm:m=1) (k:Nat) (ts:List TVal) (h:(A2E n L)[k]? =some ts):ts.length=m:=by
 obtain ⟨p,_,rfl⟩:=B00 h; exact hm.symm
theorem A9m (n:Nat) (L:List (Int×Int)):growCaps n L=[.tree (.rptr [.int .i64 (n:Int)]),.ptr 1 0,.tree (.rptr [.slice (A1c L)]),.ptr 2 0]:=rfl
theorem C0c (n:Nat) (h0:0<n) (hn:n≤12) (L:List (Int×Int)) (hL:InN n L) (hLl:L.length<2^20):AIter Tryz.prog 125 [.rptr [.int .i64 (n:Int)],.rptr [.slice (A1c L)]] (A2E n L):=by
 have hg:=A9b;have hr12:(List.range 12).length=12:=Vj;have hz0:=TDe.zero n hn;generalize hR:List.range 12=R at*;have hof:(fT R).map A04=fC R:=B6v R;refine AIter.of_body Tryz.func125 rfl (by kernel_rfl) rfl (fun l J Jx hJ hJx hY=> ?_);simp only [entry,Tryz.ntmps125,ofT,A2T,A04,Xk,Zj,List.length_cons,List.length_nil,Nat.reduceAdd,Nat.reduceSub,List.replicate_succ,List.replicate_zero,List.cons_append,List.nil_append];refine zJ (stop 3) trivial trivial trivial trivial ?_;have hGH:GH l n L [.box [.yld l],.box [.fn 126 (growCaps n L)]]:=by
  refine ⟨fun X=>rfl,fun X=>rfl,fun b hb=> ?_,fun b hb=> ?_,by simp⟩
  ·simp only [Qw,Qk,or_false] at hb;rcases hb with rfl | rfl<;>exact trivial
  ·simp only [Qw,Qk,or_false] at hb;rcases hb with rfl | rfl
   ·intro c hc;rw [Zz] at hc; subst hc; exact trivial
   ·intro c hc;rw [Zz] at hc; subst hc;intro x hx;simp only [growCaps,Qw,Qk,or_false] at hx;rcases hx with rfl | rfl | rfl | rfl
    ·exact trivial
    ·exact (by decide:(1:Nat)<3)
    ·exact trivial
    ·exact (by decide:(2:Nat)<3)
 have hlo:ACallH Tryz.prog 123 [.ghost (J 0),.box [.yld l],.box [.fn 126 (growCaps n L)]] [] [.ghost (J 0),.box [.yld l],.box [.fn 126 (growCaps n L)]] (.agg (fC R)):=by
  have:=ACall.h hg (H:=[.ghost (J 0),.box [.yld l],.box [.fn 126 (growCaps n L)]]) (args:=[]) rfl;rw [show ofT (tF R)= .agg (fC R) from by simp only [tF,ofT,hof]] at this;exact this
 have hcall:ACallE Tryz.prog 126 [.ghost (J 0),.box [.yld l],.box [.fn 126 (growCaps n L)]] ([.c .nils,.c (.int .i64 0),.agg (fC R)]++(growCaps n L).map A42)
   (fun H' r=> ∃X,H'= .ghost (J (A2E n L).length)::X∨H'= .ghost Jx::X):=by
  by_cases h1:n=1
  ·have ha:allT n L=[[]]:=B0s (by simp [h1]);have hi:A2E n L=[[A5S []]]:=by simp [A2E,ha]
   refine (B6S n h1 L l J Jx hJ hJx (hY 0 _ (by rw [hi]; rfl)) R hr12 _ hGH).mono ?_;rintro H' r ⟨X,⟨_,rfl⟩ | ⟨_,rfl⟩⟩
   ·rw [hi]; exact ⟨_,.inl rfl⟩
   ·exact ⟨_,.inr rfl⟩
  ·have hxs: ∀i T,(A17 n L L.length [] 0)[i]? =some T->(A2E n L)[0+i]? =some [A5S T]:=fun i T h=>by
    rw [Xy]; unfold A2E;rw [QY];show ((allT n L)[i]?).map _=_;unfold allT;rw [h]; rfl
   have hz1:TDe n (pkN L []) R:=hz0;have:=C4n n (by omega) hn L hL hLl l (A2E n L) J Jx hJ hJx hY L.length [] 0 R 0 [.box [.yld l],.box [.fn 126 (growCaps n L)]] 0 0 (by omega) hz1 A4i (fun x hx=>by simp at hx) (by simp; omega) hxs hGH (.inl ⟨rfl,rfl⟩) (by simp) (by simp);refine (ACallE.nil0 1 this (by simp)).mono ?_;rintro H' r (⟨_,rfl⟩ | ⟨_,rfl⟩)
   ·have e:0+(A17 n L L.length [] 0).length=(A2E n L).length:=by rw [B0z,Xy]; rfl
    rw [e];exact ⟨_,.inl rfl⟩
   ·exact ⟨_,.inr rfl⟩
 refine AWp.of_adr (by kernel_rfl) ?_;refine ADr.seg' 2 1 [(6,.c (.fn 126 (growCaps n L)))] (by kernel_rfl) (by kernel_rfl) rfl (.inl ⟨rfl,(A2V _ _ _ rfl 123 [] rfl _ hlo).n⟩) (zQ (A9m n L)) (by rintro r H' ⟨rfl,rfl⟩; exact zQ (A9m n L)) ?_;rintro r H' ⟨rfl,rfl⟩;simp only [A1d,A1f,aeval,YQ,Yy,List.set_cons_succ,List.set_cons_zero];refine ADr.one' (by kernel_rfl) rfl (.inl ⟨rfl,A6U rfl rfl hcall⟩) ?_;rintro r H' ⟨X,hX⟩;refine ADr.done (by decide) ?_;exact ⟨trivial,X,hX⟩
theorem C2i (n:Int) (L:List (Int×Int)):ACall Tryz.prog 77 [A0k n,A0C L] (.t (.fn 125 [.rptr [.int .i64 n],.rptr [.slice (A1c L)]])):=by
 refine ACall.of_body Tryz.func77 rfl (by kernel_rfl) ?_;simp only [entry,Tryz.ntmps77,A0k,A0C];refine zU ?_;refine zR Qw9 Qw9 Qw9 ?_;simp [A0y,A0x,Blk.cells,ty,Tryz.results77,A0s,A0t,toT,A0d,A0b,A0c,A0a]
def tI (Ts:List (List Nat)):List (List Int):=Ts.map fun T=>T.map fun x:Nat=>(x:Int)
theorem B2K (Ts:List (List Nat)):(tI Ts).length=Ts.length:=by simp [tI]
theorem C4t (Ts:List (List Nat)) (T:List Nat):tI (Ts++[T])=tI Ts++[T.map fun x:Nat=>(x:Int)]:=by simp [tI]
noncomputable def treesG (g:G):List (List Nat):=allT g.n.toNat (endsL g.es)
theorem B4j (g:G) (hl:g.es.length≤40) (hT:(treesG g).length≤16384):ACall Tryz.prog 25 [tG g] (.tup [A0R (if A0r g≠0 then [] else tI (treesG g)),A0k (A0r g)]):=by
 have hgv:=B4Z g hl;by_cases hj:A0r g=0
 case neg=>
  rw [if_pos hj] at hgv ⊢;generalize A0r g=E at*;obtain ⟨n,es⟩:=g;refine ACall.of_body Tryz.func25 rfl (by kernel_rfl) ?_;simp only [entry,Tryz.ntmps25,tG];refine zU ?_;refine zR (zc @hj Qw9) (zc hgv Qw9) Qw9 ?_;simp [A0y,A0x,Blk.cells,ty,Tryz.results25,A0s,A0t,toT,A0d,A0b,A0c,A0a,A0k,A0R,A00,A0C]
 have hc:checkG g=0:=by
  unfold A0r at hj;split at hj
  ·assumption
  ·rename_i h; simpa using h
 rw [if_neg (by simpa using hj),hj] at hgv;rw [if_neg (by simpa using hj),hj];have h12:=(A0h.1 hc).1;obtain ⟨n,hn⟩:=XW (show 0≤g.n by omega);have hin:InN n (endsL g.es):=fun p hp=>A2f hc hn p hp;have hll:(endsL g.es).length≤2000:=by
  have:=A6p (es:=g.es) fun e he=>by have:=(A0h.1 hc).2.1 e he; unfold okE at this; omega
  omega
 have ht1:=C0c n (by omega) (by omega) (endsL g.es) hin (by omega);have ht:=C2i (n:Int) (endsL g.es);have eT:treesG g=allT n (endsL g.es):=by unfold treesG; rw [show g.n.toNat=n by omega]
 rw [eT] at hT ⊢;clear eT h12 hc hj hin;obtain ⟨gn,es⟩:=g;simp only at hn hll ht ht1 hT ⊢;subst hn;generalize endsL es=L at*;have hiL:=B0z n L;have hinv:=fun (i:Nat) (ts:List TVal) (h:(A2E n L)[i]? =some ts)=>B00 h;have hps:=fun (k:Nat) (ts:List TVal) (h:(A2E n L)[k]? =some ts)=>C0b (m:=1) rfl k ts h;generalize allT n L=Ts at*;generalize A2E n L=IT at*;change ACall _ _ [tG ⟨((n:Nat):Int),es⟩] _ at hgv;show ACall _ _ [tG ⟨((n:Nat):Int),es⟩] _;refine ACall.of_body Tryz.func25 rfl (by kernel_rfl) ?_;simp only [entry,Tryz.ntmps25,tG];refine zU ?_;refine zR Qw9 (zc hgv (zc ht Qw9)) Qw9 ?_;refine AWp.weak (Weak.openB 3 0 1 rfl rfl (by omega)) ?_;simp only [List.set_cons_succ,List.set_cons_zero,List.length_cons,List.length_nil,Xv,Nat.reduceAdd,List.cons_append,List.nil_append];refine AWp.weak (Weak.head (m:=5) (by omega) ((fun t f=>[f,t,t,t,f,f,t,f,f,f,f,f,f,f,f,f,f,f,f,t,f,f,f,f,f,f,f,f,f]) true false) (by first | rfl | simp [mask]) (by first | rfl | simp) (by (repeat' (first | exact A0n _ | refine A0j ?_ ?_ | refine A0g ?_ ?_ | exact A0i _ | exact Qw7 | (show _<_; omega) | (intro c hc; cases hc; done) | (intro c hc; simp only [Qw,Qk,or_false] at hc; subst hc; first | exact Qw7 | (show _<_; omega)) | (intro c hc; simp only [Qw,Qk,or_false] at hc; rcases hc with rfl | rfl<;>first | exact Qw7 | (show _<_; omega))))) (by (repeat' (first | exact A0n _ | exact A0v _ | exact A0i _ | refine Qw8 ?_ ?_ | refine A0j ?_ ?_ | refine A0l ?_ ?_ | refine A0g ?_ ?_ | exact Qw7 | exact A0Z | (show _<_; omega) | exact A0q (fun _=>Qw7) | (intro c hc; cases hc; done) | (intro c hc; simp only [Qw,Qk,or_false] at hc; subst hc; first | exact Qw7 | exact A0Z | (show _<_; omega)) | (intro c hc; simp only [Qw,Qk,or_false] at hc; rcases hc with rfl | rfl<;>first | exact Qw7 | exact A0Z | (show _<_; omega)))))) (AWp.rangeFunc (fun k H=>H=[.box [.int .i64 (n:Int),.slice (A0f es) .none],.box [.nils],.box [.int .i64 0],.box [.slice (A00 (tI (Ts.take k))) (.chain 4)],.chain (Ts.take k).length 1]∧(True)) (fun _ _=>False) 5 rfl (ht1) (hps) (by omega) (by (repeat' (first | exact A0n _ | refine A0j ?_ ?_ | refine A0g ?_ ?_ | exact A0i _ | exact Qw7 | (show _<_; omega) | (intro c hc; cases hc; done) | (intro c hc; simp only [Qw,Qk,or_false] at hc; subst hc; first | exact Qw7 | (show _<_; omega)) | (intro c hc; simp only [Qw,Qk,or_false] at hc; rcases hc with rfl | rfl<;>first | exact Qw7 | (show _<_; omega))))) (by rintro _ _ ⟨rfl,-⟩; simp) (fun _ _ h=>h.elim) ?_ (fun l k ts H hts hI=> ?_) (fun H hI=> ?_) (fun e H h=>h.elim))
 ·exact ⟨rfl,trivial⟩
 ·obtain ⟨rfl,-⟩:=hI;obtain ⟨T,hx,rfl⟩:=hinv _ _ hts;have hk:k<Ts.length:=(Qx.1 hx).1;have htl:(Ts.take k).length=k:=by rw [Wv]; omega
  have hsn:=take_snoc hx;have hrs:=A5M (tI (Ts.take k)) (T.map fun x:Nat=>(x:Int));rw [<-C4t,<-hsn] at hrs;have htl1:(Ts.take (k+1)).length=k+1:=by rw [Wv]; omega
  have hne: ¬((k:Int)=16384):=by omega
  simp only [mask,A4u,List.zip_cons_cons,WV,List.zip_nil_left,List.foldl_cons,List.foldl_nil,List.set_cons_succ,List.set_cons_zero,ofT,A2T,A04,Xk,Zj,ofT,A2T,toT,A0t,A0a,A0k,A0z,A3o,tG,A0C,A0m,A5S];refine zRc (zc @A0o (zc @B2K (zc @htl (zc @hrs (zc @hne Qw9))))) Qw9 @A3e ?_;refine ⟨⟨_,_⟩,Weak.head2 (m:=5) (by decide) ((fun t f=>[f,f,f,f,f,f,f,f,f,f,f,f,f,f,f,f,f,f,f,f,f,f,f,f,f,f,f,f,f]) true false) rfl rfl (zV @A0Z),?_,?_⟩
  ·simp [htl1]
  ·trivial
 ·obtain ⟨rfl,-⟩:=hI;rw [hiL,Zy];simp only [mask];refine zR Qw9 Qw9 Qw9 ?_;simp [A0y,A0x,Blk.cells,ty,Tryz.results25,A0s,A0t,toT,A0d,A0b,A0c,A0a,A0k,A0R]
def comp (E:Nat) (S:List Nat):List Nat:=(List.range E).filter fun y=>decide (¬y∈S)
section
variable {r:R}
end
theorem C4u (g:G):ACall Tryz.prog 59 [tG g] (A0z (A1R g 5 8)):=by
 have h:=B5j g 5 8;generalize A1R g 5 8=b at*;obtain ⟨n,es⟩:=g;refine ACall.of_body Tryz.func59 rfl (by kernel_rfl) ?_;simp only [entry,Tryz.ntmps59,tG];refine zU ?_;refine zR Qw9 (zc h Qw9) Qw9 ?_;simp [A0y,A0x,Blk.cells,ty,Tryz.results59,A0s,A0t,toT,A0d,A0b,A0c,A0a,A0z]
end Go.Proofs.YtdbdfkohpjefjaaGreat
