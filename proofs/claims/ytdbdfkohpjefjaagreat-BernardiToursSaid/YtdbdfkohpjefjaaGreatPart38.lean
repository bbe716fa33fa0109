/- A part of the proof. -/
import Derived.Test.YtdbdfkohpjefjaaGreatPart33
set_option linter.all false
set_option maxHeartbeats 4000000
set_option maxRecDepth 100000
namespace Go.Proofs.YtdbdfkohpjefjaaGreat
open Go.Sp
theorem A9X (k:Int) (h: -1048576≤k∧k≤1048576):ACall Tryz.prog 107 [A0k k] (A01 true):=by
 have h1:k≥ -1048576:=h.1;have h2:k≤1048576:=h.2;refine ACall.of_body Tryz.func107 rfl (by kernel_rfl) ?_;simp only [entry,Tryz.ntmps107,A0k];refine zU ?_;refine zR (zc @h1 (zc @h2 Qw6)) Qw6 Qw6 ?_;simp [A0y,A0x,Blk.cells,ty,Tryz.results107,A0s,A0u,toT,A0e,A0b,A0c,A0a,A01]
theorem B2p (n:Int) (h:1≤n∧n≤12):ACall Tryz.prog 106 [A0k n] (A0k 0):=by
 have h1: ¬(n<1):=by omega
 have h2: ¬(n>12):=by omega
 refine ACall.of_body Tryz.func106 rfl (by kernel_rfl) ?_;simp only [entry,Tryz.ntmps106,A0k];refine zU ?_;refine zR (zc @h1 (zc @h2 Qw6)) Qw6 Qw6 ?_;simp [A0y,A0x,Blk.cells,ty,Tryz.results106,A0s,A0u,toT,A0e,A0b,A0c,A0a,A0k]
theorem A6v (d:List Int) (n:Nat) (h1:1≤n) (h12:n≤12) (hd:d.length=n) (hb:bndL 1048576 d):ACall Tryz.prog 63 [A0m d,A0k n] (A0k 0):=by
 have hV:=B2p n (by omega);refine ACall.of_body Tryz.func63 rfl (by kernel_rfl) ?_;simp only [entry,Tryz.ntmps63,A0m,A0k];refine zU ?_;refine zJ (stop 7) (zc @A0d (zc @hd Qw6)) (zc hV Qw6) Qw6 Qw6 ?_;refine AWp.loopS (α:=Nat) 27 (fun i=>[(17,.c (.slice (A0o d) .none)),(18,.c (.int .i64 (n:Int))),(19,.c (.int .i64 (i:Int)))]) (fun i=>[]) (fun i=>i≤n) (fun i=>n-i) (0) (hk:=A0r.headL 0 27 [17,18,19] (zV3 @A1g @A0I @A0F)) (h0:=?_) (round:=fun i hI=>?_)
 ·exact Xj _
 ·have hi:i≤n:=hI;clear hI;by_cases hil:i<n
  ·have hiI:(i:Int)<(n:Int):=by omega
   have hg:=A0t (A11 (d:=d) (i:=i) (by omega));have hw:=A9X (d.getD i 0) (hb i);generalize d.getD i 0=x at*;refine zR (zc @hiI (zc @hg (zc @A0d (zc @hd (zc @Xk Qw6))))) (zc hw Qw6) Qw6 ?_;refine ⟨i+1,A0r.headN 0 27 [17,18,19] (zV3 @A1g @A0I @A0F),?_,?_⟩
   ·exact hil
   ·omega
  ·have hnl: ¬(i:Int)<(n:Int):=by omega
   refine zR (zc @hnl Qw6) Qw6 Qw6 ?_;simp [A0y,A0x,Blk.cells,ty,Tryz.results63,A0s,A0u,toT,A0e,A0b,A0c,A0a,A0k]
def A2w (s:List Int) (c:Int):Nat->List Int
 | 0=>s
 | i+1=>(A2w s c i).set i ((A2w s c i).getD i 0-c)
theorem A4A (s:List Int) (c:Int): ∀i,(A2w s c i).length=s.length
 | 0=>rfl
 | i+1=>by unfold A2w; rw [Yz]; exact A4A s c i
theorem A6w (s:List Int) (c:Int) (v:Nat): ∀i,i≤s.length->(A2w s c i).getD v 0=if v<i then s.getD v 0-c else s.getD v 0
 | 0,_=>by rw [if_neg (by omega)]; rfl
 | i+1,hi=>by
  unfold A2w;rw [A49 _ _ _ _ (by rw [A4A]; omega),A6w s c v i (by omega),A6w s c i i (by omega),if_neg (Nat.lt_irrefl i)];by_cases e:v=i
  ·subst e; rw [if_pos rfl,if_pos (by omega)]
  ·rw [if_neg e];by_cases h:v<i
   ·rw [if_pos h,if_pos (by omega)]
   ·rw [if_neg h,if_neg (by omega)]
theorem B8X (n q:Nat) (es:List E) (d s:List Int) (h1:1≤n) (h12:n≤12) (hq:q<n) (hd:d.length=n) (hs:s.length=n) (hdb:bndL 1048576 d) (hsb:bndL (2^40) s) (hsc:bndL 1048576 (A2w s (s.getD q 0) n)):
  ACallH Tryz.prog 119 [.box [.int .i64 (n:Int),.slice (A0f es) .none],.ro [.int .i64 (n:Int),.slice (A0f es)],.box (iC d),.box (iC s),.roC [.tree (.int .i64 (n:Int)),.tree (.slice (A0f es)),.tree (.int .i64 (q:Int)),.ref 2 1 0 n n,.ref 3 1 0 n n,.tree (.int .i64 0)]] [.c (.ptr 4 0)] [.box [.int .i64 (n:Int),.slice (A0f es) .none],.ro [.int .i64 (n:Int),.slice (A0f es)],.box (iC d),.box (iC (A2w s (s.getD q 0) n)),.roC [.tree (.int .i64 (n:Int)),.tree (.slice (A0f es)),.tree (.int .i64 (q:Int)),.ref 2 1 0 n n,.ref 3 1 0 n n,.tree (.int .i64 0)]] (.tup [.c (.ref 2 1 0 n n),.c (.ref 3 1 0 n n),.c (.int .i64 0)]):=by
 have hqI:(q:Int)<(n:Int):=by omega
 have hgq:=A5l (A11 (d:=s) (i:=q) (by omega));have hqb:=hsb q;have hC1:=A6v d n h1 h12 hd hdb;have hC2:=A6v (A2w s (s.getD q 0) n) n h1 h12 (by rw [A4A]; exact hs) hsc;clear hsc hdb;have hsl: ∀i,i≤n-> ∀v,(A2w s (s.getD q 0) i).getD v 0=if v<i then s.getD v 0-s.getD q 0 else s.getD v 0:=fun i hi v=>A6w s _ v i (by omega)
 have hnl:=fun i=>A4A s (s.getD q 0) i;rw [hs] at hnl;have hn0:A2w s (s.getD q 0) 0=s:=rfl;have hns: ∀i,(A2w s (s.getD q 0) i).set i ((A2w s (s.getD q 0) i).getD i 0-s.getD q 0)=A2w s (s.getD q 0) (i+1):=fun i=>rfl;generalize s.getD q 0=c at*;refine ACallH.of_body Tryz.func119 rfl (by kernel_rfl) ?_;simp only [entry,Tryz.ntmps119,List.length_cons,List.length_nil,Nat.reduceAdd,Nat.reduceSub,List.replicate_succ,List.replicate_zero,List.cons_append,List.nil_append];refine zJ (stop 5) (zc @hgq (zc @hqI (zc @A1s (zc @hs (zc @Xk Qw6))))) Qw6 Qw6 Qw6 ?_;refine AWp.loopS (α:=Nat) 77 (fun i=>[(0,.c (.ptr 4 0)),(5,.c (.int .i64 c)),(30,.c (.int .i64 (n:Int))),(31,.c (.int .i64 (i:Int)))]) (fun i=>[.box [.int .i64 (n:Int),.slice (A0f es) .none],.ro [.int .i64 (n:Int),.slice (A0f es)],.box (iC d),.box (iC (A2w s c i)),.roC [.tree (.int .i64 (n:Int)),.tree (.slice (A0f es)),.tree (.int .i64 (q:Int)),.ref 2 1 0 n n,.ref 3 1 0 n n,.tree (.int .i64 0)]]) (fun i=>i≤n) (fun i=>n-i) (0) (hk:=A0r.headL 5 77 [0,5,30,31] (zV3 @A1g @A0I @A0F)) (h0:=?_) (round:=fun i hI=>?_)
 ·exact Xj _
 ·have hi:i≤n:=hI;clear hI;by_cases hil:i<n
  ·have hiI:(i:Int)<(n:Int):=by omega
   have hg:=A5l (A11 (d:=A2w s c i) (i:=i) (by rw [hnl]; exact hil));have e1:=hsl i hi i;rw [if_neg (Nat.lt_irrefl i)] at e1;have hb:=hsb i;have hst:=A8s (A2w s c i) i ((A2w s c i).getD i 0-c);rw [hns] at hst;rw [e1] at hg hst;have hl:=hnl i;clear hC1 hC2 hsl hns hsb hnl e1;generalize hn1:A2w s c (i+1)=N1 at*;generalize hn2:A2w s c i=N0 at*;generalize s.getD i 0=x at*;refine zR (zc @hiI (zc @hg (zc @hst (zc @A1s (zc @hl (zc @Xk Qw6)))))) Qw6 Qw6 ?_;refine ⟨i+1,A0r.headF 5 77 [0,5,30,31] (zc @hn1 Qw6) (zV3 @A1g @A0I @A0F),?_,?_⟩
   ·exact hil
   ·omega
  ·have hnl2: ¬(i:Int)<(n:Int):=by omega
   have ei:i=n:=by omega
   rw [ei];rw [ei] at hnl2;have hl:=hnl n;clear hsl hns hsb hnl;generalize A2w s c n=N at*;have hbi: ∀(H:List Blk) (k:IntKind) (x:Int),A0e H (.int k x)=some (.int k x):=fun _ _ _=>rfl;have hb2:A0e [.box [.int .i64 (n:Int),.slice (A0f es) .none],.ro [.int .i64 (n:Int),.slice (A0f es)],.box (iC d),.box (iC N),.roC [.tree (.int .i64 (n:Int)),.tree (.slice (A0f es)),.tree (.int .i64 (q:Int)),.ref 2 1 0 n n,.ref 3 1 0 n n,.tree (.int .i64 0)]] (.ref 2 1 0 n n)=some (.slice (A0o d)):=A8G hd rfl;have hb3:A0e [.box [.int .i64 (n:Int),.slice (A0f es) .none],.ro [.int .i64 (n:Int),.slice (A0f es)],.box (iC d),.box (iC N),.roC [.tree (.int .i64 (n:Int)),.tree (.slice (A0f es)),.tree (.int .i64 (q:Int)),.ref 2 1 0 n n,.ref 3 1 0 n n,.tree (.int .i64 0)]] (.ref 3 1 0 n n)=some (.slice (A0o N)):=A8G hl rfl;have hD1:ACallH Tryz.prog 63 [.box [.int .i64 (n:Int),.slice (A0f es) .none],.ro [.int .i64 (n:Int),.slice (A0f es)],.box (iC d),.box (iC N),.roC [.tree (.int .i64 (n:Int)),.tree (.slice (A0f es)),.tree (.int .i64 (q:Int)),.ref 2 1 0 n n,.ref 3 1 0 n n,.tree (.int .i64 0)]] [.c (.ref 2 1 0 n n),.c (.int .i64 (n:Int))] [.box [.int .i64 (n:Int),.slice (A0f es) .none],.ro [.int .i64 (n:Int),.slice (A0f es)],.box (iC d),.box (iC N),.roC [.tree (.int .i64 (n:Int)),.tree (.slice (A0f es)),.tree (.int .i64 (q:Int)),.ref 2 1 0 n n,.ref 3 1 0 n n,.tree (.int .i64 0)]] (.c (.int .i64 0)):=hC1.hb (by simp [toT,A0u,hb2,hbi,A0m,A0k]) rfl;have hD2:ACallH Tryz.prog 63 [.box [.int .i64 (n:Int),.slice (A0f es) .none],.ro [.int .i64 (n:Int),.slice (A0f es)],.box (iC d),.box (iC N),.roC [.tree (.int .i64 (n:Int)),.tree (.slice (A0f es)),.tree (.int .i64 (q:Int)),.ref 2 1 0 n n,.ref 3 1 0 n n,.tree (.int .i64 0)]] [.c (.ref 3 1 0 n n),.c (.int .i64 (n:Int))] [.box [.int .i64 (n:Int),.slice (A0f es) .none],.ro [.int .i64 (n:Int),.slice (A0f es)],.box (iC d),.box (iC N),.roC [.tree (.int .i64 (n:Int)),.tree (.slice (A0f es)),.tree (.int .i64 (q:Int)),.ref 2 1 0 n n,.ref 3 1 0 n n,.tree (.int .i64 0)]] (.c (.int .i64 0)):=hC2.hb (by simp [toT,A0u,hb3,hbi,A0m,A0k]) rfl;refine zJ Qw6 (zc @hnl2 (zc @A1s (zc @hl Qw6))) Qw6 (zc hD1 (zc hD2 Qw6)) Qw6 ?_;simp [A4r,A1T,A0s,A1S,Tryz.results119]
theorem B2q (l:List Int) (hne:l≠[]) (hl:l.length<2^30):ACallN Tryz.prog 157 [A0m l] 1 (A0o l):=by
 have hrn:A0o l≠[]:=by simpa [A0o] using hne
 have hrl:(A0o l).length=l.length:=A0d l;have hrk: ∀r,r∈A0o l->r.length=1:=fun r hr=>A1c hr;have hrf: ∀r,r∈A0o l->A1f r=true:=fun r hr=>by obtain ⟨x,_,rfl⟩:=Xq.1 hr; rfl
 refine ACallN.of_body Tryz.func157 rfl (by kernel_rfl) hrk (by decide) hrn hrf ?_;simp only [entry,Tryz.ntmps157,A0m,ofT,A2A,A04,Xy,XV,List.length_cons,List.length_nil,Nat.reduceAdd,Nat.reduceSub,List.replicate_succ,List.replicate_zero,List.cons_append,List.nil_append];generalize A0o l=rows at*
 repeat' (first|((first|(refine zT ?_;intro K' hK')|(refine zG ?_ ?_<;>(try refine zH ?_)<;>intro hguard<;>(try exact zX)<;>try intro K' hK'))<;>((try simp+contextual only [go_sem,hrl,chunks,List.range,List.range.loop]);(repeat' first|(with_reducible refine hK' _ _ ?_;clear hK' K')|(exact hrn)|(with_reducible exact hrk _ (by assumption))|(exact .inr Qw4)|exact zY|with_reducible refine Qw5 ?_ ?_|(with_reducible intro hpath;try exact zP)|(refine hK' _ _ ?_;clear hK' K')|fail);try refine zS ?_))|(refine zE ?_;refine hK _ _ ?_;clear hK K)|(refine zN ?_;try refine zS ?_)|refine zA ?_|(refine zB ?_;intro K hK)|(refine zC ?_ ?_<;>(try refine zH ?_)<;>intro hcond<;>try exact zX)|fail)
 simp [C3n,Tryz.results157]
theorem C0Q (n q:Nat) (es:List E) (d:List Int) (h1:1≤n) (h12:n≤12) (hd:d.length=n):
  ACallH Tryz.prog 116 [.box [.int .i64 (n:Int),.slice (A0f es) .none]] [ofT (tG ⟨(n:Int),es⟩),.c (.int .i64 (q:Int)),.c (.slice (A0o d) .none)] [.box [.int .i64 (n:Int),.slice (A0f es) .none],.ro [.int .i64 (n:Int),.slice (A0f es)],.box (iC d),.box (iC (List.replicate n 0)),.box [.int .i64 (n:Int),.slice (A0f es) .none,.int .i64 (q:Int),.ref 2 1 0 n n,.ref 3 1 0 n n,.int .i64 0]] (.c (.ptr 4 0)):=by
 have hdn:d≠[]:=by intro e; rw [e] at hd; simp at hd; omega
 have hC:ACallH Tryz.prog 157 [.box [.int .i64 (n:Int),.slice (A0f es) .none],.ro [.int .i64 (n:Int),.slice (A0f es)]] [.c (.slice (A0o d) .none)] [.box [.int .i64 (n:Int),.slice (A0f es) .none],.ro [.int .i64 (n:Int),.slice (A0f es)],.box (iC d)] (.c (.ref 2 1 0 n n)):=by
  have:=(B2q d hdn (by omega)).h (H:=[.box [.int .i64 (n:Int),.slice (A0f es) .none],.ro [.int .i64 (n:Int),.slice (A0f es)]]) (args:=[.c (.slice (A0o d) .none)]) (by with_unfolding_all rfl);rw [A6J,A0d,hd] at this;exact this
 have hC2:ACallH Tryz.prog 157 [.box [.int .i64 (n:Int),.slice (A0f es) .none],.ro [.int .i64 (n:Int),.slice (A0f es)],.box (iC (List.replicate n 0))] [.c (.slice (A0o d) .none)] [.box [.int .i64 (n:Int),.slice (A0f es) .none],.ro [.int .i64 (n:Int),.slice (A0f es)],.box (iC (List.replicate n 0)),.box (iC d)] (.c (.ref 3 1 0 n n)):=by
  have:=(B2q d hdn (by omega)).h (H:=[.box [.int .i64 (n:Int),.slice (A0f es) .none],.ro [.int .i64 (n:Int),.slice (A0f es)],.box (iC (List.replicate n 0))]) (args:=[.c (.slice (A0o d) .none)]) (by with_unfolding_all rfl);rw [A6J,A0d,hd] at this;exact this
 have hsw: ∀l:List Int,(iC l).mapM (A8j 2 3)=some (iC l):=fun l=>by
  induction l with
  | nil=>rfl
  | cons x l ih=>
   unfold iC at ih ⊢;rw [Xy,Jj,ih]; rfl
 simp only [tG,ofT,A2A,A04,Xy,XV];refine ACallE.swapTo (H2:=[.box [.int .i64 (n:Int),.slice (A0f es) .none],.ro [.int .i64 (n:Int),.slice (A0f es)],.box (iC (List.replicate n 0)),.box (iC d),.box [.int .i64 (n:Int),.slice (A0f es) .none,.int .i64 (q:Int),.ref 3 1 0 n n,.ref 2 1 0 n n,.int .i64 0]]) (c2:= .ptr 4 0) ?_ 2 3 (by show 1≤2; decide) (by show 1≤3; decide) (by show 2<5; decide) (by show 3<5; decide) rfl (fun id hid=> ?_) rfl
 ·refine ACallE.of_body Tryz.func116 rfl (by kernel_rfl) ?_;simp only [entry,Tryz.ntmps116,List.length_cons,List.length_nil,Nat.reduceAdd,Nat.reduceSub,List.replicate_succ,List.replicate_zero,List.cons_append,List.nil_append];refine zJ (stop 1) trivial trivial trivial trivial ?_;refine AWp.freezeP 3 1 rfl rfl (ts:=[.int .i64 (n:Int),.slice (A0f es)]) rfl ?_;simp only [List.set_cons_succ,List.set_cons_zero];refine AWp.seq_draw2c (wd:= .loud) 1 3 3 6 (by decide+kernel) (fun K hK=> ?_) (fun K hK=> ?_)
  ·
   repeat' (first|((refine zT ?_;intro K' hK')<;>((try simp+contextual only [go_sem,A1F,Int.toNat_natCast,Yq,Xk]);(repeat' first|(with_reducible refine hK' _ _ ?_;clear hK' K')|((with_reducible first|refine ⟨_,_,hC,?_⟩|refine ⟨_,hC,?_⟩);try simp+contextual only [go_sem,A1F,Int.toNat_natCast,Yq,Xk])|exact zY|with_reducible refine Qw5 ?_ ?_|(with_reducible intro hpath;try exact zP)|(refine hK' _ _ ?_;clear hK' K')|fail);try refine zS ?_))|(refine zE ?_;refine hK _ _ ?_;clear hK K)|refine zA ?_|fail)
   simp [C1E,A1T,A0s,A1S,Tryz.results116]
  ·
   simp only [C1G,C2X,List.take_succ_cons,List.take_zero,Zx,ZY,List.cons_append,List.nil_append,Nat.reduceMul]
   repeat' (first|((refine zT ?_;intro K' hK')<;>((try simp+contextual only [go_sem,A1F,Int.toNat_natCast,Yq,Xk]);(repeat' first|(with_reducible refine hK' _ _ ?_;clear hK' K')|((with_reducible first|refine ⟨_,_,hC2,?_⟩|refine ⟨_,hC2,?_⟩);try simp+contextual only [go_sem,A1F,Int.toNat_natCast,Yq,Xk])|exact zY|with_reducible refine Qw5 ?_ ?_|(with_reducible intro hpath;try exact zP)|(refine hK' _ _ ?_;clear hK' K')|fail);try refine zS ?_))|(refine zE ?_;refine hK _ _ ?_;clear hK K)|refine zA ?_|fail)
   simp [C1E,A1T,A0s,A1S,Tryz.results116]
 ·simp only [List.length_cons,List.length_nil,Nat.reduceAdd] at hid
  match id,hid with
  | 0,_=>exact .inl ⟨_,_,rfl,rfl,rfl⟩
  | 1,_=>exact .inr ⟨_,rfl,rfl⟩
  | 2,_=>exact .inl ⟨_,_,rfl,hsw _,rfl⟩
  | 3,_=>exact .inl ⟨_,_,rfl,hsw _,rfl⟩
  | 4,_=>exact .inl ⟨_,_,rfl,rfl,rfl⟩
theorem B8Y (n q:Nat) (es:List E) (d:List Int) (hq:q<n) (hd:d.length=n) (h1:1≤n) (h12:n≤12) (hl:es.length<2^30) (hc:checkG ⟨(n:Int),es⟩=0) (hcc:connB ⟨(n:Int),es⟩=true) (hb:bndL 1048576 d):ACall Tryz.prog 115 [tG ⟨(n:Int),es⟩,A0k q,A0m d] (A0k 0):=by
 have hC:ACall Tryz.prog 129 [tG ⟨(n:Int),es⟩] (.tup [A01 true,A0k 0]):=by
  have:=A3m ⟨(n:Int),es⟩ hl;rw [hc,hcc] at this;exact this
 have hChk:=A6v d n h1 h12 hd hb;have h0: ¬((q:Int)<0):=by omega
 have h2: ¬((q:Int)≥(n:Int)):=by omega
 refine ACall.of_body Tryz.func115 rfl (by kernel_rfl) ?_;simp only [entry,Tryz.ntmps115,tG,A0k,A0m];refine zU ?_;refine zR (zc @h0 (zc @h2 Qw6)) (zc hC (zc hChk Qw6)) Qw6 ?_;simp [A0y,A0x,Blk.cells,ty,Tryz.results115,A0s,A0u,toT,A0e,A0b,A0c,A0a,A0k]
section
variable {n:Nat} {es:List E}
end
structure Gok (n:Nat) (es:List E):Prop where
 h1:1≤n
 h12:n≤12
 hl:es.length≤40
 hE:EsOk n es
 hm1: ∀e,e∈es->1≤e.m
 hM:Mult n (mulE es)
 hc:checkG ⟨(n:Int),es⟩=0
 hcc:connB ⟨(n:Int),es⟩=true
structure Dok (n:Nat) (es:List E) (d:List Int):Prop where
 len:d.length=n
 bnd: ∃B C P:Int,0≤B∧bndL B d∧B≤C∧(∀q far,q<n->BFq es n q far []->powF (levF es far) B (n-1)≤C)∧sumR (fun v=>max 0 (d.getD v 0)) n≤P∧C+P≤1048576∧C+n*P≤1048576
theorem C1q (ls:List (List Int)) (n:Nat) (h1:1≤n) (h12:n≤12) (hll:ls.length<2^20) (hls: ∀d,d∈ls->d.length=n∧bndL 1048576 d):ACall Tryz.prog 112 [.t (.slice (A07 ls))] (A0k 0):=by
 refine ACall.of_body Tryz.func112 rfl (by kernel_rfl) ?_;simp only [entry,Tryz.ntmps112,A0k];refine zU ?_;refine zJ (stop 2) (zc @A0q Qw6) Qw6 Qw6 Qw6 ?_;refine AWp.loopS (α:=Nat) 36 (fun i=>[(0,.c (.slice (A07 ls) .none)),(8,.c (.slice (A07 ls) .none)),(9,.c (.int .i64 (ls.length:Int))),(10,.c (.int .i64 (i:Int)))]) (fun i=>[]) (fun i=>i≤ls.length) (fun i=>ls.length-i) (0) (hk:=A0r.headL 0 36 [0,8,9,10] (zV3 @A1g @A0I @A0F)) (h0:=?_) (round:=fun i hI=>?_)
 ·exact Xj _
 ·have hi:i≤ls.length:=hI;clear hI;by_cases hil:i<ls.length
  ·have hiI:(i:Int)<(ls.length:Int):=by omega
   have hge:=Qq hil;have hg:=A0V hge;obtain ⟨d1,d2⟩:=hls _ (Qy hge);generalize ls[i]=d at*;have hC:=A6v d n h1 h12 d1 d2;refine zR (zc @hiI (zc @hg (zc @A0q (zc @A0d (zc @d1 (zc @Xk Qw6)))))) (zc hC Qw6) Qw6 ?_;refine ⟨i+1,A0r.headN 0 36 [0,8,9,10] (zV3 @A1g @A0I @A0F),?_,?_⟩
   ·exact hil
   ·omega
  ·have hnl: ¬(i:Int)<(ls.length:Int):=by omega
   refine zJ (stop 9) (zc @hnl (zc @A0q Qw6)) Qw6 Qw6 Qw6 ?_;refine AWp.loopS (α:=Nat) 36 (fun j=>[(0,.c (.slice (A07 ls) .none)),(22,.c (.slice (A07 ls) .none)),(23,.c (.int .i64 (ls.length:Int))),(24,.c (.int .i64 (j:Int)))]) (fun j=>[]) (fun j=>j≤ls.length) (fun j=>ls.length-j) (0) (hk:=A0r.headL 0 36 [0,22,23,24] (zV3 @A1g @A0I @A0F)) (h0:=?_) (round:=fun j hI=>?_)
   ·exact Xj _
   ·have hj:j≤ls.length:=hI;clear hI;by_cases hjl:j<ls.length
    ·have hjI:(j:Int)<(ls.length:Int):=by omega
     have h0I:(0:Int)<(ls.length:Int):=by omega
     have hge:=Qq hjl;have hg:=A0V hge;have hge0:=Qq (show 0<ls.length by omega);have hg0:=A0V hge0;obtain ⟨d1,d2⟩:=hls _ (Qy hge);obtain ⟨d3,d4⟩:=hls _ (Qy hge0);generalize ls[j]=d at*;generalize ls[0]=d0 at*;refine zR (zc @hjI (zc @h0I (zc @hg (zc @hg0 (zc @A0q (zc @A0d (zc @d1 (zc @d3 (zc @Int.toNat_zero (zc @Xk Qw6)))))))))) Qw6 Qw6 ?_;refine ⟨j+1,A0r.headN 0 36 [0,22,23,24] (zV3 @A1g @A0I @A0F),?_,?_⟩
     ·exact hjl
     ·omega
    ·have hnl2: ¬(j:Int)<(ls.length:Int):=by omega
     refine zR (zc @hnl2 Qw6) Qw6 Qw6 ?_;simp [A0y,A0x,Blk.cells,ty,Tryz.results112,A0s,A0u,toT,A0e,A0b,A0c,A0a,A0k]
theorem B4A {d:List Int} {K:Int} (h:bndL K d): ∀i:Nat,-(K*i)≤sumR (fun v=>d.getD v 0) i∧sumR (fun v=>d.getD v 0) i≤K*i
 | 0=>by simp [sumR]
 | i+1=>by
  have h1:=B4A h i;have h2:=h i;have e:K*((i+1:Nat):Int)=K*i+K:=by rw [Int.natCast_add,Int.mul_add]; simp
  simp only [sumR];omega
def B9j (d:List Int) (n:Nat):Int:=sumR (fun v=>d.getD v 0) n
theorem B6c (d:List Int) (n:Nat) (h1:1≤n) (h12:n≤12) (hd:d.length=n) (hb:bndL 1048576 d):ACall Tryz.prog 71 [A0m d] (.tup [A0k (B9j d n),A0k 0]):=by
 have hO:=C1q [d] n h1 h12 (by show 1<2^20; decide) (fun x hx=>by rw [Zz] at hx; subst hx; exact ⟨hd,hb⟩);have e0:B9j d 0=0:=rfl;simp only [A07,Xy,XV] at hO;refine ACall.of_body Tryz.func71 rfl (by kernel_rfl) ?_;simp only [entry,Tryz.ntmps71,A0m];refine zU ?_
 repeat' ((fail_if_success (with_reducible refine AWp.atSeq 6 ?_));(fail_if_success (with_reducible refine AWp.atLast 6 ?_));first|((first|(refine zT ?_;intro K' hK')|(refine zG ?_ ?_<;>(try refine zH ?_)<;>intro hguard<;>(try exact zX)<;>try intro K' hK'))<;>((try simp+contextual only [go_sem,A0d,hd,List.length_cons,List.length_nil,chunks,List.range,List.range.loop]);(repeat' first|(with_reducible refine hK' _ _ ?_;clear hK' K')|(with_reducible refine zK hO ?_;try simp+contextual only [go_sem,A0d,hd,List.length_cons,List.length_nil,chunks,List.range,List.range.loop])|exact zY|with_reducible refine Qw5 ?_ ?_|(with_reducible intro hpath;try exact zP)|(refine hK' _ _ ?_;clear hK' K')|fail);try refine zS ?_))|(refine zE ?_;refine hK _ _ ?_;clear hK K)|(refine zN ?_;try refine zS ?_)|refine zA ?_|(refine zB ?_;intro K hK)|(refine zC ?_ ?_<;>(try refine zH ?_)<;>intro hcond<;>try exact zX)|fail)
 refine AWp.loopS (α:=Nat) 25 (fun i=>[(5,.c (.int .i64 (B9j d i))),(14,.c (.slice (A0o d) .none)),(15,.c (.int .i64 (n:Int))),(16,.c (.int .i64 (i:Int)))]) (fun i=>[]) (fun i=>i≤n) (fun i=>n-i) (0) (hk:=A0r.headL 0 25 [5,14,15,16] (zV3 @A1g @A0I @A0F)) (h0:=?_) (round:=fun i hI=>?_)
 ·exact Xj _
 ·have hi:i≤n:=hI;clear hI;by_cases hil:i<n
  ·have hiI:(i:Int)<(n:Int):=by omega
   have hg:=A0t (A11 (d:=d) (i:=i) (by omega));have hx:=hb i;have hs: -(1048576*i)≤B9j d i∧B9j d i≤1048576*i:=B4A hb i;have hnx:B9j d (i+1)=B9j d i+d.getD i 0:=rfl;generalize hN1:B9j d (i+1)=N1 at*;generalize B9j d i=N0 at*;generalize d.getD i 0=x at*;refine zR (zc @hiI (zc @hg (zc @A0d (zc @hd (zc @Xk Qw6))))) Qw6 Qw6 ?_;refine ⟨i+1,A0r.headF 0 25 [5,14,15,16] (zc @hN1 (zc @hnx Qw6)) (zV3 @A1g @A0I @A0F),?_,?_⟩
   ·exact hil
   ·omega
  ·have hnl: ¬(i:Int)<(n:Int):=by omega
   have ei:i=n:=by omega
   rw [ei];rw [ei] at hnl;refine zR (zc @hnl Qw6) Qw6 Qw6 ?_;simp [A0y,A0x,Blk.cells,ty,Tryz.results71,A0s,A0u,toT,A0e,A0b,A0c,A0a,A0k]
def B0S (a b:List Int) (n i:Nat):List Int:=(List.range n).map fun v=>if v<i then a.getD v 0+b.getD v 0 else 0
theorem A7D (a b:List Int) (n i:Nat):(B0S a b n i).length=n:=by simp [B0S]
theorem B4B (a b:List Int) (n i v:Nat):(B0S a b n i)[v]? =if v<n then some (if v<i then a.getD v 0+b.getD v 0 else 0) else none:=by
 unfold B0S;rw [QY];by_cases h:v<n
 ·rw [if_pos h,Yw h]; rfl
 ·rw [if_neg h,QV (by simpa using h)]; rfl
theorem C0R (a b:List Int) {n i:Nat} (hi:i<n):(B0S a b n i).set i (a.getD i 0+b.getD i 0)=B0S a b n (i+1):=by
 apply XZ;intro j;rw [Qj5,A7D,B4B,B4B];by_cases e:i=j
 ·subst e;rw [if_pos rfl,if_pos hi,if_pos hi,if_pos (by omega)]
 ·rw [if_neg e];by_cases h:j<n
  ·rw [if_pos h,if_pos h];by_cases h2:j<i
   ·rw [if_pos h2,if_pos (by omega)]
   ·rw [if_neg h2,if_neg (by omega)]
  ·rw [if_neg h,if_neg h]
theorem B8Z (a b:List Int) (n:Nat):B0S a b n 0=List.replicate n 0:=by
 apply Qz0
 ·simp [B0S]
 ·intro i h1 h2; simp [B0S]
theorem C2N (x y:Int) (h: -(2^40)≤x∧x≤2^40) (h': -(2^40)≤y∧y≤2^40):ACall Tryz.prog 114 [A0k x,A0k y] (A0k (x+y)):=by
 refine ACall.of_body Tryz.func114 rfl (by kernel_rfl) ?_;simp only [entry,Tryz.ntmps114,A0k];refine zU ?_;refine zR Qw6 Qw6 Qw6 ?_;simp [A0y,A0x,Blk.cells,ty,Tryz.results114,A0s,A0u,toT,A0e,A0b,A0c,A0a,A0k]
theorem B9a (a b:List Int) (n:Nat) (h1:1≤n) (h12:n≤12) (ha:a.length=n) (hb:b.length=n) (ha1:bndL 1048576 a) (hb1:bndL 1048576 b) (hs: ∀v,v<n-> -1048576≤a.getD v 0+b.getD v 0∧a.getD v 0+b.getD v 0≤1048576):
  ACallH Tryz.prog 113 [] [.c (.slice (A0o a) .none),.c (.slice (A0o b) .none),.c (.fn 114 [])] [.box (iC (B0S a b n n))] (.tup [.c (.ref 0 1 0 n n),.c (.int .i64 0)]):=by
 have hO:=C1q [a,b] n h1 h12 (by show 2<2^20; decide) (fun x hx=>by
  simp only [Qw,Qk,or_false] at hx;rcases hx with rfl | rfl
  ·exact ⟨ha,ha1⟩
  ·exact ⟨hb,hb1⟩)
 simp only [A07,Xy,XV] at hO;have hnI:(0:Int)≤(n:Int):=by omega
 refine ACallH.of_body Tryz.func113 rfl (by kernel_rfl) ?_;simp only [entry,Tryz.ntmps113,List.length_cons,List.length_nil,Nat.reduceAdd,Nat.reduceSub,List.replicate_succ,List.replicate_zero,List.cons_append,List.nil_append]
 repeat' ((fail_if_success (with_reducible refine AWp.atSeq 6 ?_));(fail_if_success (with_reducible refine AWp.atLast 6 ?_));first|((first|(refine zT ?_;intro K' hK')|(refine zG ?_ ?_<;>(try refine zH ?_)<;>intro hguard<;>(try exact zX)<;>try intro K' hK'))<;>((try simp+contextual only [go_sem,A0d,ha,A1F,A1s,Yx,Int.toNat_natCast,Yq,Xk,List.length_cons,List.length_nil,chunks,List.range,List.range.loop]);(repeat' first|(with_reducible refine hK' _ _ ?_;clear hK' K')|(with_reducible refine zK hO ?_;try simp+contextual only [go_sem,A0d,ha,A1F,A1s,Yx,Int.toNat_natCast,Yq,Xk,List.length_cons,List.length_nil,chunks,List.range,List.range.loop])|exact zY|with_reducible refine Qw5 ?_ ?_|(with_reducible intro hpath;try exact zP)|(refine hK' _ _ ?_;clear hK' K')|fail);try refine zS ?_))|(refine zE ?_;refine hK _ _ ?_;clear hK K)|(refine zN ?_;try refine zS ?_)|refine zA ?_|(refine zB ?_;intro K hK)|(refine zC ?_ ?_<;>(try refine zH ?_)<;>intro hcond<;>try exact zX)|fail)
 rw [<-B8Z a b n];refine AWp.loopS (α:=Nat) 47 (fun i=>[(0,.c (.slice (A0o a) .none)),(1,.c (.slice (A0o b) .none)),(2,.c (.fn 114 [])),(9,.c (.ref 0 1 0 n n)),(22,.c (.int .i64 (n:Int))),(23,.c (.int .i64 (i:Int)))]) (fun i=>[.box (iC (B0S a b n i))]) (fun i=>i≤n) (fun i=>n-i) (0) (hk:=A0r.headL 1 47 [0,1,2,9,22,23] (zV3 @A1g @A0I @A0F)) (h0:=?_) (round:=fun i hI=>?_)
 ·exact Xj _
 ·have hi:i≤n:=hI;clear hI;by_cases hil:i<n
  ·have hiI:(i:Int)<(n:Int):=by omega
   have ga:=A0t (A11 (d:=a) (i:=i) (by omega));have gb:=A0t (A11 (d:=b) (i:=i) (by omega));have hF:=C2N (a.getD i 0) (b.getD i 0) (by have:=ha1 i; omega) (by have:=hb1 i; omega);have hw:=A9X (a.getD i 0+b.getD i 0) (hs i hil);have hns:=C0R a b hil;have hnl:=A7D a b n i;have hst:=A8s (B0S a b n i) i (a.getD i 0+b.getD i 0);rw [hns] at hst;have hl1:=A7D a b n (i+1);have hg2:(iC (B0S a b n (i+1)))[i]? =some (.int .i64 (a.getD i 0+b.getD i 0)):=by rw [<-hst]; exact QW (by rw [A1s,hnl]; exact hil)
   clear hns hs ha1 hb1 hO;generalize hn1:B0S a b n (i+1)=N1 at*;generalize B0S a b n i=N0 at*;generalize a.getD i 0=x at*;generalize b.getD i 0=y at*;refine zR (zc @hiI (zc @ga (zc @gb (zc @hst (zc @hg2 (zc @hnl (zc @hl1 (zc @A1s (zc @A0d (zc @ha (zc @hb (zc @Xk Qw6)))))))))))) (zc hF (zc hw Qw6)) Qw6 ?_;refine ⟨i+1,A0r.headF 1 47 [0,1,2,9,22,23] (zc @hn1 Qw6) (zV3 @A1g @A0I @A0F),?_,?_⟩
   ·exact hil
   ·omega
  ·have hnl: ¬(i:Int)<(n:Int):=by omega
   have ei:i=n:=by omega
   rw [ei];rw [ei] at hnl;refine zR (zc @hnl Qw6) Qw6 Qw6 ?_;simp [A4r,A1T,A0s,A1S,Tryz.results113]
theorem C3V (a b:List Int) (n:Nat) (h1:1≤n) (h12:n≤12) (ha:a.length=n) (hb:b.length=n) (ha1:bndL 1048576 a) (hb1:bndL 1048576 b) (hs: ∀v,v<n-> -1048576≤a.getD v 0+b.getD v 0∧a.getD v 0+b.getD v 0≤1048576):
  ACall Tryz.prog 72 [A0m a,A0m b] (.tup [A0m (B0S a b n n),A0k 0]):=by
 have hE:=B9a a b n h1 h12 ha hb ha1 hb1 hs;have hl:=A7D a b n n;generalize B0S a b n n=d at*;have hbi: ∀(H:List Blk) (k:IntKind) (x:Int),A0e H (.int k x)=some (.int k x):=fun _ _ _=>rfl;have hr0:A0e [.box (iC d)] (.ref 0 1 0 n n)=some (.slice (A0o d)):=A8G hl rfl;refine ACall.of_body Tryz.func72 rfl (by kernel_rfl) ?_;simp only [entry,Tryz.ntmps72,A0m];refine zU ?_;refine zJ Qw6 Qw6 Qw6 (zc hE Qw6) Qw6 ?_;simp [A0y,A0x,Tryz.results72,A0s,A0u,toT,hr0,hbi,A0m,A0k]
end Go.Proofs.YtdbdfkohpjefjaaGreat
