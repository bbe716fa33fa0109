/- A part of the proof. -/
import Derived.Test.YtdbdfkohpjefjaaGreatPart30
import Derived.Test.YtdbdfkohpjefjaaGreatPart32
import Derived.Test.YtdbdfkohpjefjaaGreatPart31
set_option linter.all false
set_option maxHeartbeats 4000000
set_option maxRecDepth 100000
namespace Go.Proofs.YtdbdfkohpjefjaaGreat
open Go.Sp
theorem B5Y (n:Nat) (hn:n=1) (L:List (Int×Int)) (l:Nat) (J:Nat->Sig->World->Prop) (Jx:Sig->World->Prop) (hJ: ∀k,Clo (J k)) (hJx:Clo Jx)
  (hY:YStep Tryz.prog l (J 0) [A53 []] (J 1) Jx) (F:List Nat) (hfl:F.length=12) (H1:List Blk) (hG:GH l n L H1):
   ACallE Tryz.prog 126 (.ghost (J 0)::H1) ([.c .nils,.c (.int .i64 0),.agg (fC F)]++(growCaps n L).map A4g)
    (fun H' r=> ∃X,(r= .c (.bool true)∧H'= .ghost (J 1)::(H1++X))∨(r= .c (.bool false)∧H'= .ghost Jx::(H1++X))):=by
 subst hn;refine ACallE.of_body Tryz.func126 rfl (by kernel_rfl) ?_;simp only [entry,growCaps,A4g,A04,Xy,XV,Tryz.ntmps126,List.length_cons,List.length_nil,Nat.reduceAdd,Nat.reduceSub,List.replicate_succ,List.replicate_zero,List.cons_append,List.nil_append];have hC:ACallH Tryz.prog 127 (.ghost (J 0)::(H1++[.box (fC F)])) [.c .nils] (.ghost (J 0)::(H1++[.box (fC F)])) (ofT (A53 [])):=ACall.h B5L rfl;have hy:=hG.yld [.box (fC F)];refine zJ (stop 2) (zc @A0U (zc @hfl Qw6)) Qw6 Qw6 Qw6 ?_;refine AWp.seq (AWp.of_adr (by kernel_rfl) ?_);refine ADr.seg' 3 2 [(18,.c (.yld l)),(19,.c .nils)] (by kernel_rfl) (by kernel_rfl) rfl (.inl ⟨rfl,(A2C _ _ _ rfl 127 [] rfl _ hC).n⟩) (zQ hy) (by rintro r H' ⟨rfl,rfl⟩; exact zQ hy) ?_;rintro r H' ⟨rfl,rfl⟩;simp only [A1d,A1e,aeval,Yk,Yv,List.set_cons_succ,List.set_cons_zero];refine ADr.one' (by kernel_rfl) rfl (.inl ⟨rfl,A9p (ts:=[A53 []]) rfl rfl rfl (okF hG.ok hfl) hY (hJ _) hJx⟩) ?_;rintro r H' (⟨rfl,rfl⟩ | ⟨rfl,rfl⟩)
 ·
  simp only [A1d,A1e,aeval,Yk,Yv,List.set_cons_succ,List.set_cons_zero];refine ADr.run 1 (by kernel_rfl) (by decide) (fun K hK=> ?_);simp only [Nat.reduceAdd,Zx,ZY,List.take_succ_cons,List.take_zero]
  repeat' (first|((first|(refine zT ?_;intro K' hK')|(refine zG ?_ ?_<;>(try refine zH ?_)<;>intro hguard<;>(try exact zX)<;>try intro K' hK'))<;>((try simp+contextual only [go_sem]);(repeat' first|(with_reducible refine hK' _ _ ?_;clear hK' K')|exact zY|with_reducible refine Qw5 ?_ ?_|(with_reducible intro hpath;try exact zP)|(refine hK' _ _ ?_;clear hK' K')|fail);try refine zS ?_))|(refine zE ?_;refine hK _ _ ?_;clear hK K)|(refine zN ?_;try refine zS ?_)|fail)
  try simp only [Nat.reduceAdd]
  refine ADr.done (by decide) ?_;refine zR Qw6 Qw6 Qw6 ?_;exact ⟨trivial,_,⟨_,.inl ⟨rfl,rfl⟩⟩,by simp [A1T,A0s,A1S,Tryz.results126]⟩
 ·
  simp only [A1d,A1e,aeval,Yk,Yv,List.set_cons_succ,List.set_cons_zero];refine ADr.run 1 (by kernel_rfl) (by decide) (fun K hK=> ?_);simp only [Nat.reduceAdd,Zx,ZY,List.take_succ_cons,List.take_zero]
  repeat' (first|((first|(refine zT ?_;intro K' hK')|(refine zG ?_ ?_<;>(try refine zH ?_)<;>intro hguard<;>(try exact zX)<;>try intro K' hK'))<;>((try simp+contextual only [go_sem]);(repeat' first|(with_reducible refine hK' _ _ ?_;clear hK' K')|exact zY|with_reducible refine Qw5 ?_ ?_|(with_reducible intro hpath;try exact zP)|(refine hK' _ _ ?_;clear hK' K')|fail);try refine zS ?_))|(refine zE ?_;refine hK _ _ ?_;clear hK K)|(refine zN ?_;try refine zS ?_)|fail)
  try simp only [Nat.reduceAdd]
  refine ADr.done (by decide) ?_;refine zR Qw6 Qw6 Qw6 ?_;exact ⟨trivial,_,⟨_,.inr ⟨rfl,rfl⟩⟩,by simp [A1T,A0s,A1S,Tryz.results126]⟩
noncomputable def allT (n:Nat) (L:List (Int×Int)):List (List Nat):=A1I n L L.length [] 0
noncomputable def A2y (n:Nat) (L:List (Int×Int)):List (List TVal):=(allT n L).map fun T=>[A53 T]
theorem A9U (n:Nat) (L:List (Int×Int)):(A2y n L).length=(allT n L).length:=by simp [A2y]
theorem A9V {n:Nat} {L:List (Int×Int)} {i:Nat} {ts:List TVal} (h:(A2y n L)[i]? =some ts): ∃T,(allT n L)[i]? =some T∧ts=[A53 T]:=by
 unfold A2y at h;rw [QY] at h;cases hx:(allT n L)[i]? with
 | none=>rw [hx] at h; cases h
 | some T=>rw [hx] at h; simp at h; exact ⟨T,rfl,h.symm⟩
theorem B8P {n:Nat} {L:List (Int×Int)} {m:Nat} (hm:m=1) (k:Nat) (ts:List TVal) (h:(A2y n L)[k]? =some ts):ts.length=m:=by
 obtain ⟨p,_,rfl⟩:=A9V h; exact hm.symm
theorem A8Q (n:Nat) (L:List (Int×Int)):growCaps n L=[.tree (.rptr [.int .i64 (n:Int)]),.ptr 1 0,.tree (.rptr [.slice (A1b L)]),.ptr 2 0]:=rfl
theorem B8Q (n:Nat) (h0:0<n) (hn:n≤12) (L:List (Int×Int)) (hL:InN n L) (hLl:L.length<2^20):AIter Tryz.prog 125 [.rptr [.int .i64 (n:Int)],.rptr [.slice (A1b L)]] (A2y n L):=by
 have hg:=A8F;have hr12:(List.range 12).length=12:=VQ;have hz0:=TDe.zero n hn;generalize hR:List.range 12=R at*;have hof:(fT R).map A04=fC R:=B50 R;refine AIter.of_body Tryz.func125 rfl (by kernel_rfl) rfl (fun l J Jx hJ hJx hY=> ?_);simp only [entry,Tryz.ntmps125,ofT,A2A,A04,Xy,XV,List.length_cons,List.length_nil,Nat.reduceAdd,Nat.reduceSub,List.replicate_succ,List.replicate_zero,List.cons_append,List.nil_append];refine zJ (stop 3) trivial trivial trivial trivial ?_;have hGH:GH l n L [.box [.yld l],.box [.fn 126 (growCaps n L)]]:=by
  refine ⟨fun X=>rfl,fun X=>rfl,fun b hb=> ?_,fun b hb=> ?_,by simp⟩
  ·simp only [Qw,Qk,or_false] at hb;rcases hb with rfl | rfl<;>exact trivial
  ·simp only [Qw,Qk,or_false] at hb;rcases hb with rfl | rfl
   ·intro c hc;rw [Zz] at hc; subst hc; exact trivial
   ·intro c hc;rw [Zz] at hc; subst hc;intro x hx;simp only [growCaps,Qw,Qk,or_false] at hx;rcases hx with rfl | rfl | rfl | rfl
    ·exact trivial
    ·exact (by decide:(1:Nat)<3)
    ·exact trivial
    ·exact (by decide:(2:Nat)<3)
 have hlo:ACallH Tryz.prog 123 [.ghost (J 0),.box [.yld l],.box [.fn 126 (growCaps n L)]] [] [.ghost (J 0),.box [.yld l],.box [.fn 126 (growCaps n L)]] (.agg (fC R)):=by
  have:=ACall.h hg (H:=[.ghost (J 0),.box [.yld l],.box [.fn 126 (growCaps n L)]]) (args:=[]) rfl;rw [show ofT (tF R)= .agg (fC R) from by simp only [tF,ofT,hof]] at this;exact this
 have hcall:ACallE Tryz.prog 126 [.ghost (J 0),.box [.yld l],.box [.fn 126 (growCaps n L)]] ([.c .nils,.c (.int .i64 0),.agg (fC R)]++(growCaps n L).map A4g)
   (fun H' r=> ∃X,H'= .ghost (J (A2y n L).length)::X∨H'= .ghost Jx::X):=by
  by_cases h1:n=1
  ·have ha:allT n L=[[]]:=A9Q (by simp [h1]);have hi:A2y n L=[[A53 []]]:=by simp [A2y,ha]
   refine (B5Y n h1 L l J Jx hJ hJx (hY 0 _ (by rw [hi]; rfl)) R hr12 _ hGH).mono ?_;rintro H' r ⟨X,⟨_,rfl⟩ | ⟨_,rfl⟩⟩
   ·rw [hi]; exact ⟨_,.inl rfl⟩
   ·exact ⟨_,.inr rfl⟩
  ·have hxs: ∀i T,(A1I n L L.length [] 0)[i]? =some T->(A2y n L)[0+i]? =some [A53 T]:=fun i T h=>by
    rw [Xk]; unfold A2y;rw [QY];show ((allT n L)[i]?).map _=_;unfold allT;rw [h]; rfl
   have hz1:TDe n (pkN L []) R:=hz0;have:=C2B n (by omega) hn L hL hLl l (A2y n L) J Jx hJ hJx hY L.length [] 0 R 0 [.box [.yld l],.box [.fn 126 (growCaps n L)]] 0 0 (by omega) hz1 A6k (fun x hx=>by simp at hx) (by simp; omega) hxs hGH (.inl ⟨rfl,rfl⟩) (by simp) (by simp);refine (ACallE.nil0 1 this (by simp)).mono ?_;rintro H' r (⟨_,rfl⟩ | ⟨_,rfl⟩)
   ·have e:0+(A1I n L L.length [] 0).length=(A2y n L).length:=by rw [A9U,Xk]; rfl
    rw [e];exact ⟨_,.inl rfl⟩
   ·exact ⟨_,.inr rfl⟩
 refine AWp.of_adr (by kernel_rfl) ?_;refine ADr.seg' 2 1 [(6,.c (.fn 126 (growCaps n L)))] (by kernel_rfl) (by kernel_rfl) rfl (.inl ⟨rfl,(A2C _ _ _ rfl 123 [] rfl _ hlo).n⟩) (zQ (A8Q n L)) (by rintro r H' ⟨rfl,rfl⟩; exact zQ (A8Q n L)) ?_;rintro r H' ⟨rfl,rfl⟩;simp only [A1d,A1e,aeval,Yk,Yv,List.set_cons_succ,List.set_cons_zero];refine ADr.one' (by kernel_rfl) rfl (.inl ⟨rfl,A6A rfl rfl hcall⟩) ?_;rintro r H' ⟨X,hX⟩;refine ADr.done (by decide) ?_;exact ⟨trivial,X,hX⟩
theorem C0N (n:Int) (L:List (Int×Int)):ACall Tryz.prog 77 [A0k n,A0C L] (.t (.fn 125 [.rptr [.int .i64 n],.rptr [.slice (A1b L)]])):=by
 refine ACall.of_body Tryz.func77 rfl (by kernel_rfl) ?_;simp only [entry,Tryz.ntmps77,A0k,A0C];refine zU ?_;refine zR Qw6 Qw6 Qw6 ?_;simp [A0y,A0x,Blk.cells,ty,Tryz.results77,A0s,A0u,toT,A0e,A0b,A0c,A0a]
def tI (Ts:List (List Nat)):List (List Int):=Ts.map fun T=>T.map fun x:Nat=>(x:Int)
theorem B49 (Ts:List (List Nat)):(tI Ts).length=Ts.length:=by simp [tI]
theorem C2I (Ts:List (List Nat)) (T:List Nat):tI (Ts++[T])=tI Ts++[T.map fun x:Nat=>(x:Int)]:=by simp [tI]
noncomputable def treesG (g:G):List (List Nat):=allT g.n.toNat (endsL g.es)
theorem B33 (g:G) (hl:g.es.length≤40) (hT:(treesG g).length≤16384):ACall Tryz.prog 25 [tG g] (.tup [A1i (if A0w g≠0 then [] else tI (treesG g)),A0k (A0w g)]):=by
 have hgv:=B4n g hl;by_cases hj:A0w g=0
 case neg=>
  rw [if_pos hj] at hgv ⊢;generalize A0w g=E at*;obtain ⟨n,es⟩:=g;refine ACall.of_body Tryz.func25 rfl (by kernel_rfl) ?_;simp only [entry,Tryz.ntmps25,tG];refine zU ?_;refine zR (zc @hj Qw6) (zc hgv Qw6) Qw6 ?_;simp [A0y,A0x,Blk.cells,ty,Tryz.results25,A0s,A0u,toT,A0e,A0b,A0c,A0a,A0k,A1i,A07,A0C]
 have hc:checkG g=0:=by
  unfold A0w at hj;split at hj
  ·assumption
  ·rename_i h; simpa using h
 rw [if_neg (by simpa using hj),hj] at hgv;rw [if_neg (by simpa using hj),hj];have h12:=(A0j.1 hc).1;obtain ⟨n,hn⟩:=XX (show 0≤g.n by omega);have hin:InN n (endsL g.es):=fun p hp=>A51 hc hn p hp;have hll:(endsL g.es).length≤2000:=by
  have:=A5T (es:=g.es) fun e he=>by have:=(A0j.1 hc).2.1 e he; unfold okE at this; omega
  omega
 have ht1:=B8Q n (by omega) (by omega) (endsL g.es) hin (by omega);have ht:=C0N (n:Int) (endsL g.es);have eT:treesG g=allT n (endsL g.es):=by unfold treesG; rw [show g.n.toNat=n by omega]
 rw [eT] at hT ⊢;clear eT h12 hc hj hin;obtain ⟨gn,es⟩:=g;simp only at hn hll ht ht1 hT ⊢;subst hn;generalize endsL es=L at*;have hiL:=A9U n L;have hinv:=fun (i:Nat) (ts:List TVal) (h:(A2y n L)[i]? =some ts)=>A9V h;have hps:=fun (k:Nat) (ts:List TVal) (h:(A2y n L)[k]? =some ts)=>B8P (m:=1) rfl k ts h;generalize allT n L=Ts at*;generalize A2y n L=IT at*;change ACall _ _ [tG ⟨((n:Nat):Int),es⟩] _ at hgv;show ACall _ _ [tG ⟨((n:Nat):Int),es⟩] _;refine ACall.of_body Tryz.func25 rfl (by kernel_rfl) ?_;simp only [entry,Tryz.ntmps25,tG];refine zU ?_;refine zR Qw6 (zc hgv (zc ht Qw6)) Qw6 ?_;refine AWp.weak (A0r.openB 3 0 1 rfl rfl (by omega)) ?_;simp only [List.set_cons_succ,List.set_cons_zero,List.length_cons,List.length_nil,Xv,Nat.reduceAdd,List.cons_append,List.nil_append];refine AWp.weak (A0r.head (m:=5) (by omega) ((fun t f=>[f,t,t,t,f,f,t,f,f,f,f,f,f,f,f,f,f,f,f,t,f,f,f,f,f,f,f,f,f]) true false) (by first | rfl | simp [mask]) (by first | rfl | simp) (by (repeat' (first | exact A0n _ | refine A0i ?_ ?_ | refine A0g ?_ ?_ | exact A0h _ | exact Qw4 | (show _<_; omega) | (intro c hc; cases hc; done) | (intro c hc; simp only [Qw,Qk,or_false] at hc; subst hc; first | exact Qw4 | (show _<_; omega)) | (intro c hc; simp only [Qw,Qk,or_false] at hc; rcases hc with rfl | rfl<;>first | exact Qw4 | (show _<_; omega))))) (by (repeat' (first | exact A0n _ | exact A0v _ | exact A0h _ | refine Qw5 ?_ ?_ | refine A0i ?_ ?_ | refine A0l ?_ ?_ | refine A0g ?_ ?_ | exact Qw4 | exact A0Y | (show _<_; omega) | exact A0p (fun _=>Qw4) | (intro c hc; cases hc; done) | (intro c hc; simp only [Qw,Qk,or_false] at hc; subst hc; first | exact Qw4 | exact A0Y | (show _<_; omega)) | (intro c hc; simp only [Qw,Qk,or_false] at hc; rcases hc with rfl | rfl<;>first | exact Qw4 | exact A0Y | (show _<_; omega)))))) (AWp.rangeFunc (fun k H=>H=[.box [.int .i64 (n:Int),.slice (A0f es) .none],.box [.nils],.box [.int .i64 0],.box [.slice (A07 (tI (Ts.take k))) (.chain 4)],.chain (Ts.take k).length 1]∧(True)) (fun _ _=>False) 5 rfl (ht1) (hps) (by omega) (by (repeat' (first | exact A0n _ | refine A0i ?_ ?_ | refine A0g ?_ ?_ | exact A0h _ | exact Qw4 | (show _<_; omega) | (intro c hc; cases hc; done) | (intro c hc; simp only [Qw,Qk,or_false] at hc; subst hc; first | exact Qw4 | (show _<_; omega)) | (intro c hc; simp only [Qw,Qk,or_false] at hc; rcases hc with rfl | rfl<;>first | exact Qw4 | (show _<_; omega))))) (by rintro _ _ ⟨rfl,-⟩; simp) (fun _ _ h=>h.elim) ?_ (fun l k ts H hts hI=> ?_) (fun H hI=> ?_) (fun e H h=>h.elim))
 ·exact ⟨rfl,trivial⟩
 ·obtain ⟨rfl,-⟩:=hI;obtain ⟨T,hx,rfl⟩:=hinv _ _ hts;have hk:k<Ts.length:=(Qx.1 hx).1;have htl:(Ts.take k).length=k:=by rw [WX]; omega
  have hsn:=take_snoc hx;have hrs:=A8u (tI (Ts.take k)) (T.map fun x:Nat=>(x:Int));rw [<-C2I,<-hsn] at hrs;have htl1:(Ts.take (k+1)).length=k+1:=by rw [WX]; omega
  have hne: ¬((k:Int)=16384):=by omega
  simp only [mask,A3Y,List.zip_cons_cons,Wy,List.zip_nil_left,List.foldl_cons,List.foldl_nil,List.set_cons_succ,List.set_cons_zero,ofT,A2A,A04,Xy,XV,ofT,A2A,toT,A0u,A0a,A0k,A01,A2W,tG,A0C,A0m,A53];refine zRc (zc @A0q (zc @B49 (zc @htl (zc @hrs (zc @hne Qw6))))) Qw6 @A8t ?_;refine ⟨⟨_,_⟩,A0r.head2 (m:=5) (by decide) ((fun t f=>[f,f,f,f,f,f,f,f,f,f,f,f,f,f,f,f,f,f,f,f,f,f,f,f,f,f,f,f,f]) true false) rfl rfl (zV @A0Y),?_,?_⟩
  ·simp [htl1]
  ·trivial
 ·obtain ⟨rfl,-⟩:=hI;rw [hiL,Zk];simp only [mask];refine zR Qw6 Qw6 Qw6 ?_;simp [A0y,A0x,Blk.cells,ty,Tryz.results25,A0s,A0u,toT,A0e,A0b,A0c,A0a,A0k,A1i]
section
variable {P:Program} {rd:Option Nat} {h:Nat} {Q:Exit->St->Prop} {c:Code} {tm:List AVal} {H:List Blk}
end
def sC (O:List (List Int)):List ACell:=O.map fun x=> .slice (A0o x) .none
theorem C2J {m:Nat} {O:List (List Int)}:Go.Sp.cellsIn m (sC O):=fun c hc=>by
 obtain ⟨x,_,rfl⟩:=Xq.1 hc; exact Qw4
theorem C1p (O:List (List Int)):(sC O).length=O.length:=by simp [sC]
theorem C2K (O:List (List Int)):flatRows (A07 O)=sC O:=by
 unfold flatRows A07 sC
 induction O with
 | nil=>rfl
 | cons x l ih=>simp only [Xy,List.flatten_cons,WW,XV,List.singleton_append] at ih ⊢; rw [ih]; rfl
theorem C2L (O:List (List Int)):(sC O).mapM A0a=some (O.map fun x=>Tree.slice (A0o x))∧chunks 1 O.length (O.map fun x=>Tree.slice (A0o x))=A07 O:=by
 unfold sC;constructor
 ·induction O with
  | nil=>rfl
  | cons x l ih=>simp only [Xy,Jj,ih]; rfl
 ·have h:=B3a (O.map fun x=>Tree.slice (A0o x));rw [XY] at h;rw [h]; simp [A07]
def comp (E:Nat) (S:List Nat):List Nat:=(List.range E).filter fun y=>decide (¬y∈S)
section
variable {r:R}
end
end Go.Proofs.YtdbdfkohpjefjaaGreat
