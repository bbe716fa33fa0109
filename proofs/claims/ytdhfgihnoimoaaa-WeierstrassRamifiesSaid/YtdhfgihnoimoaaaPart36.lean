/- A part of the proof. -/
import Derived.Test.YtdhfgihnoimoaaaLayerC
import Derived.Test.YtdhfgihnoimoaaaPart35
import Derived.Test.YtdhfgihnoimoaaaPart26
import Derived.Test.YtdhfgihnoimoaaaPart22
import Derived.Test.YtdhfgihnoimoaaaPart08
import Derived.Test.YtdhfgihnoimoaaaLayerE
set_option linter.all false
set_option maxHeartbeats 4000000
set_option maxRecDepth 100000
namespace Go.Proofs.Ytdhfgihnoimoaaa
open Go.Sp
theorem A61 (k:Int) (h: -1048576≤k∧k≤1048576):ACall Try.prog 68 [A0g k] (A09 true):=by
 have h1:k≥ -1048576:=h.1
 have h2:k≤1048576:=h.2
 refine ACall.of_body Try.func68 rfl (by kernel_rfl) ?_
 simp only [entry,Try.ntmps68,A0g]
 refine zU ?_
 refine zR (zc @h1 (zc @h2 trivial)) trivial trivial ?_
 simp [A0E,A0C,Blk.cells,ty,Try.results68,A0y,A05,toT,A0e,A0c,A0d,A0a,A09]
theorem A6K (n:Int) (h:1≤n∧n≤12):ACall Try.prog 85 [A0g n] (A0g 0):=by
 have h1: ¬(n<1):=by omega
 have h2: ¬(n>12):=by omega
 refine ACall.of_body Try.func85 rfl (by kernel_rfl) ?_
 simp only [entry,Try.ntmps85,A0g]
 refine zU ?_
 refine zR (zc @h1 (zc @h2 trivial)) trivial trivial ?_
 simp [A0E,A0C,Blk.cells,ty,Try.results85,A0y,A05,toT,A0e,A0c,A0d,A0a,A0g]
theorem A47 (d:List Int) (n:Nat) (h1:1≤n) (h12:n≤12) (hd:d.length=n) (hb:bndL 1048576 d):ACall Try.prog 83 [A0m d,A0g n] (A0g 0):=by
 have hV:=A6K n (by omega)
 refine ACall.of_body Try.func83 rfl (by kernel_rfl) ?_
 simp only [entry,Try.ntmps83,A0m,A0g]
 refine zU ?_
 refine zJ (stop 7) (zc @A0f (zc @hd trivial)) (zc hV trivial) trivial trivial ?_
 refine AWp.loopS (α:=Nat) 27 (fun i=>[(17,.c (.slice (A0p d) .none)),(18,.c (.int .i64 (n:Int))),(19,.c (.int .i64 (i:Int)))]) (fun i=>[]) (fun i=>i≤n) (fun i=>n-i) (0) (hk:=A0s.headL 0 27 [17,18,19] (zV3 @A0o @A0j @A0r)) (h0:=?_) (round:=fun i hI=>?_)
 ·exact Nat.zero_le _
 ·have hi:i≤n:=hI
  clear hI
  by_cases hil:i<n
  ·have hiI:(i:Int)<(n:Int):=by omega
   have hg:=A0P (A0u (d:=d) (i:=i) (by omega))
   have hw:=A61 (d.getD i 0) (hb i)
   generalize d.getD i 0=x at*
   refine zR (zc @hiI (zc @hg (zc @A0f (zc @hd (zc @Nat.zero_add trivial))))) (zc hw trivial) trivial ?_
   refine ⟨i+1,A0s.headN 0 27 [17,18,19] (zV3 @A0o @A0j @A0r),?_,?_⟩
   ·exact hil
   ·omega
  ·have hnl: ¬(i:Int)<(n:Int):=by omega
   refine zR (zc @hnl trivial) trivial trivial ?_
   simp [A0E,A0C,Blk.cells,ty,Try.results83,A0y,A05,toT,A0e,A0c,A0d,A0a,A0g]
def A2p (s:List Int) (c:Int):Nat→List Int
 | 0=>s
 | i+1=>(A2p s c i).set i ((A2p s c i).getD i 0-c)
theorem A3C (s:List Int) (c:Int): ∀i,(A2p s c i).length=s.length
 | 0=>rfl
 | i+1=>by unfold A2p; rw [List.length_set]; exact A3C s c i
theorem A5X (s:List Int) (c:Int) (v:Nat): ∀i,i≤s.length→(A2p s c i).getD v 0=if v<i then s.getD v 0-c else s.getD v 0
 | 0,_=>by rw [if_neg (by omega)]; rfl
 | i+1,hi=>by
  unfold A2p
  rw [A08 _ _ _ _ (by rw [A3C]; omega),A5X s c v i (by omega),A5X s c i i (by omega),if_neg (Nat.lt_irrefl i)]
  by_cases e:v=i
  ·subst e; rw [if_pos rfl,if_pos (by omega)]
  ·rw [if_neg e]
   by_cases h:v<i
   ·rw [if_pos h,if_pos (by omega)]
   ·rw [if_neg h,if_neg (by omega)]
theorem B58 (n q:Nat) (es:List E) (d s:List Int) (h1:1≤n) (h12:n≤12) (hq:q<n) (hd:d.length=n) (hs:s.length=n) (hdb:bndL 1048576 d) (hsb:bndL (2^40) s) (hsc:bndL 1048576 (A2p s (s.getD q 0) n)):
  ACallH Try.prog 91 [.box [.int .i64 (n:Int),.slice (A0b es) .none],.ro [.int .i64 (n:Int),.slice (A0b es)],.box (iC d),.box (iC s),.roC [.tree (.int .i64 (n:Int)),.tree (.slice (A0b es)),.tree (.int .i64 (q:Int)),.ref 2 1 0 n n,.ref 3 1 0 n n,.tree (.int .i64 0)]] [.c (.ptr 4 0)] [.box [.int .i64 (n:Int),.slice (A0b es) .none],.ro [.int .i64 (n:Int),.slice (A0b es)],.box (iC d),.box (iC (A2p s (s.getD q 0) n)),.roC [.tree (.int .i64 (n:Int)),.tree (.slice (A0b es)),.tree (.int .i64 (q:Int)),.ref 2 1 0 n n,.ref 3 1 0 n n,.tree (.int .i64 0)]] (.tup [.c (.ref 2 1 0 n n),.c (.ref 3 1 0 n n),.c (.int .i64 0)]):=by
 have hqI:(q:Int)<(n:Int):=by omega
 have hgq:=A1J (A0u (d:=s) (i:=q) (by omega))
 have hqb:=hsb q
 have hC1:=A47 d n h1 h12 hd hdb
 have hC2:=A47 (A2p s (s.getD q 0) n) n h1 h12 (by rw [A3C]; exact hs) hsc
 clear hsc hdb
 have hsl: ∀i,i≤n→ ∀v,(A2p s (s.getD q 0) i).getD v 0=if v<i then s.getD v 0-s.getD q 0 else s.getD v 0:=fun i hi v=>A5X s _ v i (by omega)
 have hnl:=fun i=>A3C s (s.getD q 0) i
 rw [hs] at hnl
 have hn0:A2p s (s.getD q 0) 0=s:=rfl
 have hns: ∀i,(A2p s (s.getD q 0) i).set i ((A2p s (s.getD q 0) i).getD i 0-s.getD q 0)=A2p s (s.getD q 0) (i+1):=fun i=>rfl
 generalize s.getD q 0=c at*
 refine ACallH.of_body Try.func91 rfl (by kernel_rfl) ?_
 simp only [entry,Try.ntmps91,List.length_cons,List.length_nil,Nat.reduceAdd,Nat.reduceSub,List.replicate_succ,List.replicate_zero,List.cons_append,List.nil_append]
 refine zJ (stop 5) (zc @hgq (zc @hqI (zc @A0F (zc @hs (zc @Nat.zero_add trivial))))) trivial trivial trivial ?_
 refine AWp.loopS (α:=Nat) 77 (fun i=>[(0,.c (.ptr 4 0)),(5,.c (.int .i64 c)),(30,.c (.int .i64 (n:Int))),(31,.c (.int .i64 (i:Int)))]) (fun i=>[.box [.int .i64 (n:Int),.slice (A0b es) .none],.ro [.int .i64 (n:Int),.slice (A0b es)],.box (iC d),.box (iC (A2p s c i)),.roC [.tree (.int .i64 (n:Int)),.tree (.slice (A0b es)),.tree (.int .i64 (q:Int)),.ref 2 1 0 n n,.ref 3 1 0 n n,.tree (.int .i64 0)]]) (fun i=>i≤n) (fun i=>n-i) (0) (hk:=A0s.headL 5 77 [0,5,30,31] (zV3 @A0o @A0j @A0r)) (h0:=?_) (round:=fun i hI=>?_)
 ·exact Nat.zero_le _
 ·have hi:i≤n:=hI
  clear hI
  by_cases hil:i<n
  ·have hiI:(i:Int)<(n:Int):=by omega
   have hg:=A1J (A0u (d:=A2p s c i) (i:=i) (by rw [hnl]; exact hil))
   have e1:=hsl i hi i
   rw [if_neg (Nat.lt_irrefl i)] at e1
   have hb:=hsb i
   have hst:=A2z (A2p s c i) i ((A2p s c i).getD i 0-c)
   rw [hns] at hst
   rw [e1] at hg hst
   have hl:=hnl i
   clear hC1 hC2 hsl hns hsb hnl e1
   generalize hn1:A2p s c (i+1)=N1 at*
   generalize hn2:A2p s c i=N0 at*
   generalize s.getD i 0=x at*
   refine zR (zc @hiI (zc @hg (zc @hst (zc @A0F (zc @hl (zc @Nat.zero_add trivial)))))) trivial trivial ?_
   refine ⟨i+1,A0s.headF 5 77 [0,5,30,31] (zc @hn1 trivial) (zV3 @A0o @A0j @A0r),?_,?_⟩
   ·exact hil
   ·omega
  ·have hnl2: ¬(i:Int)<(n:Int):=by omega
   have ei:i=n:=by omega
   rw [ei]
   rw [ei] at hnl2
   have hl:=hnl n
   clear hsl hns hsb hnl
   generalize A2p s c n=N at*
   have hbi: ∀(H:List Blk) (k:IntKind) (x:Int),A0e H (.int k x)=some (.int k x):=fun _ _ _=>rfl
   have hb2:A0e [.box [.int .i64 (n:Int),.slice (A0b es) .none],.ro [.int .i64 (n:Int),.slice (A0b es)],.box (iC d),.box (iC N),.roC [.tree (.int .i64 (n:Int)),.tree (.slice (A0b es)),.tree (.int .i64 (q:Int)),.ref 2 1 0 n n,.ref 3 1 0 n n,.tree (.int .i64 0)]] (.ref 2 1 0 n n)=some (.slice (A0p d)):=A4X hd rfl
   have hb3:A0e [.box [.int .i64 (n:Int),.slice (A0b es) .none],.ro [.int .i64 (n:Int),.slice (A0b es)],.box (iC d),.box (iC N),.roC [.tree (.int .i64 (n:Int)),.tree (.slice (A0b es)),.tree (.int .i64 (q:Int)),.ref 2 1 0 n n,.ref 3 1 0 n n,.tree (.int .i64 0)]] (.ref 3 1 0 n n)=some (.slice (A0p N)):=A4X hl rfl
   have hD1:ACallH Try.prog 83 [.box [.int .i64 (n:Int),.slice (A0b es) .none],.ro [.int .i64 (n:Int),.slice (A0b es)],.box (iC d),.box (iC N),.roC [.tree (.int .i64 (n:Int)),.tree (.slice (A0b es)),.tree (.int .i64 (q:Int)),.ref 2 1 0 n n,.ref 3 1 0 n n,.tree (.int .i64 0)]] [.c (.ref 2 1 0 n n),.c (.int .i64 (n:Int))] [.box [.int .i64 (n:Int),.slice (A0b es) .none],.ro [.int .i64 (n:Int),.slice (A0b es)],.box (iC d),.box (iC N),.roC [.tree (.int .i64 (n:Int)),.tree (.slice (A0b es)),.tree (.int .i64 (q:Int)),.ref 2 1 0 n n,.ref 3 1 0 n n,.tree (.int .i64 0)]] (.c (.int .i64 0)):=hC1.hb (by simp [toT,A05,hb2,hbi,A0m,A0g]) rfl
   have hD2:ACallH Try.prog 83 [.box [.int .i64 (n:Int),.slice (A0b es) .none],.ro [.int .i64 (n:Int),.slice (A0b es)],.box (iC d),.box (iC N),.roC [.tree (.int .i64 (n:Int)),.tree (.slice (A0b es)),.tree (.int .i64 (q:Int)),.ref 2 1 0 n n,.ref 3 1 0 n n,.tree (.int .i64 0)]] [.c (.ref 3 1 0 n n),.c (.int .i64 (n:Int))] [.box [.int .i64 (n:Int),.slice (A0b es) .none],.ro [.int .i64 (n:Int),.slice (A0b es)],.box (iC d),.box (iC N),.roC [.tree (.int .i64 (n:Int)),.tree (.slice (A0b es)),.tree (.int .i64 (q:Int)),.ref 2 1 0 n n,.ref 3 1 0 n n,.tree (.int .i64 0)]] (.c (.int .i64 0)):=hC2.hb (by simp [toT,A05,hb3,hbi,A0m,A0g]) rfl
   refine zJ trivial (zc @hnl2 (zc @A0F (zc @hl trivial))) trivial (zc hD1 (zc hD2 trivial)) trivial ?_
   simp [A2W,A1M,A0y,A1L,Try.results91]
theorem B0O (l:List Int) (hne:l≠[]) (hl:l.length<2^30):ACallN Try.prog 104 [A0m l] 1 (A0p l):=by
 have hrn:A0p l≠[]:=by simpa [A0p] using hne
 have hrl:(A0p l).length=l.length:=A0f l
 have hrk: ∀r,r∈A0p l→r.length=1:=fun r hr=>A1w hr
 have hrf: ∀r,r∈A0p l→A2V r=true:=fun r hr=>by obtain ⟨x,_,rfl⟩:=List.mem_map.1 hr; rfl
 refine ACallN.of_body Try.func104 rfl (by kernel_rfl) hrk (by decide) hrn hrf ?_
 simp only [entry,Try.ntmps104,A0m,ofT,A3i,A0x,List.map_cons,List.map_nil,List.length_cons,List.length_nil,Nat.reduceAdd,Nat.reduceSub,List.replicate_succ,List.replicate_zero,List.cons_append,List.nil_append]
 generalize A0p l=rows at*
 repeat' (first|((first|(refine zT ?_;intro K' hK')|(refine zG ?_ ?_<;>(try refine zH ?_)<;>intro hguard<;>(try exact zX)<;>try intro K' hK'))<;>((try simp+contextual only [go_sem,hrl,chunks,List.range,List.range.loop]);(repeat' first|(with_reducible refine hK' _ _ ?_;clear hK' K')|(exact hrn)|(with_reducible exact hrk _ (by assumption))|(exact .inr True.intro)|exact zY|with_reducible refine And.intro ?_ ?_|(with_reducible intro hpath;try exact zP)|(refine hK' _ _ ?_;clear hK' K')|fail);try refine zS ?_))|(refine zE ?_;refine hK _ _ ?_;clear hK K)|(refine zN ?_;try refine zS ?_)|refine zA ?_|(refine zB ?_;intro K hK)|(refine zC ?_ ?_<;>(try refine zH ?_)<;>intro hcond<;>try exact zX)|fail)
 simp [B8R,Try.results104]
theorem B7a (n q:Nat) (es:List E) (d:List Int) (h1:1≤n) (h12:n≤12) (hd:d.length=n):
  ACallH Try.prog 88 [.box [.int .i64 (n:Int),.slice (A0b es) .none]] [ofT (tG ⟨(n:Int),es⟩),.c (.int .i64 (q:Int)),.c (.slice (A0p d) .none)] [.box [.int .i64 (n:Int),.slice (A0b es) .none],.ro [.int .i64 (n:Int),.slice (A0b es)],.box (iC d),.box (iC (List.replicate n 0)),.box [.int .i64 (n:Int),.slice (A0b es) .none,.int .i64 (q:Int),.ref 2 1 0 n n,.ref 3 1 0 n n,.int .i64 0]] (.c (.ptr 4 0)):=by
 have hdn:d≠[]:=by intro e; rw [e] at hd; simp at hd; omega
 have hC:ACallH Try.prog 104 [.box [.int .i64 (n:Int),.slice (A0b es) .none],.ro [.int .i64 (n:Int),.slice (A0b es)]] [.c (.slice (A0p d) .none)] [.box [.int .i64 (n:Int),.slice (A0b es) .none],.ro [.int .i64 (n:Int),.slice (A0b es)],.box (iC d)] (.c (.ref 2 1 0 n n)):=by
  have:=(B0O d hdn (by omega)).h (H:=[.box [.int .i64 (n:Int),.slice (A0b es) .none],.ro [.int .i64 (n:Int),.slice (A0b es)]]) (args:=[.c (.slice (A0p d) .none)]) (by with_unfolding_all rfl)
  rw [A35,A0f,hd] at this
  exact this
 have hC2:ACallH Try.prog 104 [.box [.int .i64 (n:Int),.slice (A0b es) .none],.ro [.int .i64 (n:Int),.slice (A0b es)],.box (iC (List.replicate n 0))] [.c (.slice (A0p d) .none)] [.box [.int .i64 (n:Int),.slice (A0b es) .none],.ro [.int .i64 (n:Int),.slice (A0b es)],.box (iC (List.replicate n 0)),.box (iC d)] (.c (.ref 3 1 0 n n)):=by
  have:=(B0O d hdn (by omega)).h (H:=[.box [.int .i64 (n:Int),.slice (A0b es) .none],.ro [.int .i64 (n:Int),.slice (A0b es)],.box (iC (List.replicate n 0))]) (args:=[.c (.slice (A0p d) .none)]) (by with_unfolding_all rfl)
  rw [A35,A0f,hd] at this
  exact this
 have hsw: ∀l:List Int,(iC l).mapM (A7G 2 3)=some (iC l):=fun l=>by
  induction l with
  | nil=>rfl
  | cons x l ih=>
   unfold iC at ih ⊢
   rw [List.map_cons,List.mapM_cons,ih]; rfl
 simp only [tG,ofT,A3i,A0x,List.map_cons,List.map_nil]
 refine ACallE.swapTo (H2:=[.box [.int .i64 (n:Int),.slice (A0b es) .none],.ro [.int .i64 (n:Int),.slice (A0b es)],.box (iC (List.replicate n 0)),.box (iC d),.box [.int .i64 (n:Int),.slice (A0b es) .none,.int .i64 (q:Int),.ref 3 1 0 n n,.ref 2 1 0 n n,.int .i64 0]]) (c2:= .ptr 4 0) ?_ 2 3 (by show 1≤2; decide) (by show 1≤3; decide) (by show 2<5; decide) (by show 3<5; decide) rfl (fun id hid=> ?_) rfl
 ·refine ACallE.of_body Try.func88 rfl (by kernel_rfl) ?_
  simp only [entry,Try.ntmps88,List.length_cons,List.length_nil,Nat.reduceAdd,Nat.reduceSub,List.replicate_succ,List.replicate_zero,List.cons_append,List.nil_append]
  refine zJ (stop 1) trivial trivial trivial trivial ?_
  refine AWp.freezeP 3 1 rfl rfl (ts:=[.int .i64 (n:Int),.slice (A0b es)]) rfl ?_
  simp only [List.set_cons_succ,List.set_cons_zero]
  refine L.AWp.seq_draw2c (wd:=true) 1 3 3 6 (by decide+kernel) (fun K hK=> ?_) (fun K hK=> ?_)
  ·
   repeat' (first|((refine L.lT ?_;intro K' hK')<;>((try simp+contextual only [go_sem,A1R,Int.toNat_natCast,Nat.mul_one,Nat.zero_add]);(repeat' first|(with_reducible refine hK' _ _ ?_;clear hK' K')|((with_reducible first|refine ⟨_,_,hC,?_⟩|refine ⟨_,hC,?_⟩);try simp+contextual only [go_sem,A1R,Int.toNat_natCast,Nat.mul_one,Nat.zero_add])|exact zY|with_reducible refine And.intro ?_ ?_|(with_reducible intro hpath;try exact zP)|(refine hK' _ _ ?_;clear hK' K')|fail);try refine zS ?_))|(refine L.lE ?_;refine hK _ _ ?_;clear hK K)|refine zA ?_|fail)
   simp [B7Y,A1M,A0y,A1L,Try.results88]
  ·
   simp only [L.cswL,L.bswL,List.take_succ_cons,List.take_zero,List.drop_succ_cons,List.drop_zero,List.cons_append,List.nil_append,Nat.reduceMul]
   repeat' (first|((refine L.lT ?_;intro K' hK')<;>((try simp+contextual only [go_sem,A1R,Int.toNat_natCast,Nat.mul_one,Nat.zero_add]);(repeat' first|(with_reducible refine hK' _ _ ?_;clear hK' K')|((with_reducible first|refine ⟨_,_,hC2,?_⟩|refine ⟨_,hC2,?_⟩);try simp+contextual only [go_sem,A1R,Int.toNat_natCast,Nat.mul_one,Nat.zero_add])|exact zY|with_reducible refine And.intro ?_ ?_|(with_reducible intro hpath;try exact zP)|(refine hK' _ _ ?_;clear hK' K')|fail);try refine zS ?_))|(refine L.lE ?_;refine hK _ _ ?_;clear hK K)|refine zA ?_|fail)
   simp [B7Y,A1M,A0y,A1L,Try.results88]
 ·simp only [List.length_cons,List.length_nil,Nat.reduceAdd] at hid
  match id,hid with
  | 0,_=>exact .inl ⟨_,_,rfl,rfl,rfl⟩
  | 1,_=>exact .inr ⟨_,rfl,rfl⟩
  | 2,_=>exact .inl ⟨_,_,rfl,hsw _,rfl⟩
  | 3,_=>exact .inl ⟨_,_,rfl,hsw _,rfl⟩
  | 4,_=>exact .inl ⟨_,_,rfl,rfl,rfl⟩
theorem B59 (n q:Nat) (es:List E) (d:List Int) (hq:q<n) (hd:d.length=n) (h1:1≤n) (h12:n≤12) (hl:es.length<2^30) (hc:checkG ⟨(n:Int),es⟩=0) (hcc:connB ⟨(n:Int),es⟩=true) (hb:bndL 1048576 d):ACall Try.prog 87 [tG ⟨(n:Int),es⟩,A0g q,A0m d] (A0g 0):=by
 have hC:ACall Try.prog 60 [tG ⟨(n:Int),es⟩] (.tup [A09 true,A0g 0]):=by
  have:=A3n ⟨(n:Int),es⟩ hl
  rw [hc,hcc] at this
  exact this
 have hChk:=A47 d n h1 h12 hd hb
 have h0: ¬((q:Int)<0):=by omega
 have h2: ¬((q:Int)≥(n:Int)):=by omega
 refine ACall.of_body Try.func87 rfl (by kernel_rfl) ?_
 simp only [entry,Try.ntmps87,tG,A0g,A0m]
 refine zU ?_
 refine zR (zc @h0 (zc @h2 trivial)) (zc hC (zc hChk trivial)) trivial ?_
 simp [A0E,A0C,Blk.cells,ty,Try.results87,A0y,A05,toT,A0e,A0c,A0d,A0a,A0g]
section
variable {n:Nat} {es:List E}
theorem A8N {p:Int→Bool}: ∀{l:List (Int×Int)},(∀x,x∈l→p x.1=false)→joinL p l=0
 | [],_=>rfl
 | x::l,h=>by
  rw [A4L,A8N fun y hy=>h y (by simp [hy]),h x (by simp)]; rfl
theorem B1Y (h:EsOk n es) {u v:Nat} (hv:v<n) (hm:1≤mulE es u v): ∃x,x∈lnkL es u∧x.1.toNat=v:=by
 refine Classical.byContradiction fun hx=> ?_
 have h1:=join_one h u hv
 rw [A8N fun x hxl=>decide_eq_false fun e=>hx ⟨x,hxl,by rw [e]; rfl⟩] at h1
 omega
theorem B8z (h:EsOk n es) (hM:Mult n (mulE es)) {q:Nat} (hq:q<n) {far:List Int} (hf:BFq es n q far []) {v:Nat} (hv:v<n) (hne:v≠q):0<far.getD v 0:=by
 have hall: ∀w,w<n→0≤far.getD w 0:=fun w hw=>by
  refine Classical.byContradiction fun hx=> ?_
  obtain ⟨a,b,ha,hb,s1,s2,s3⟩:=hM.con (fun u=>decide (0≤far.getD u 0)) ⟨q,hq,decide_eq_true (by rw [hf.q0]; exact Int.le_refl _)⟩ ⟨w,hw,decide_eq_false hx⟩
  obtain ⟨x,hx1,hx2⟩:=B1Y h hb s3
  have:=((hf.proc a ha (of_decide_eq_true s1) (by simp)).2 x hx1).1
  rw [hx2] at this
  exact of_decide_eq_false s2 this
 have h0:=hall v hv
 obtain ⟨y,_,h1,h2⟩:=hf.par v hv hne h0
 omega
theorem SInv.mono {q:Nat} {d0:List Int} {X Y Y' sq:Int} {w:List Int×List Int} (h:SInv n es q d0 X Y sq w) (hY:Y≤Y'):SInv n es q d0 X Y' sq w:=⟨h.dl,h.sl,h.led,h.don,h.dq,fun v hv=>by have:=h.low v hv; omega,h.sq⟩
end
theorem B5A (n q:Nat) (es:List E) (d:List Int) (h1:1≤n) (h12:n≤12) (hq:q<n) (hd:d.length=n) (hl:es.length≤40) (hE:EsOk n es) (hm1: ∀e,e∈es→1≤e.m) (hM:Mult n (mulE es)) (hc:checkG ⟨(n:Int),es⟩=0) (hcc:connB ⟨(n:Int),es⟩=true) (B Z P:Int) (hB0:0≤B) (hB:bndL B d) (hZ:1≤Z) (hsz:sizeE es≤Z) (hP:sumR (fun v=>max 0 (d.getD v 0)) n≤P) (hX1:powZ Z B (n-1)+P≤1048576) (hX2:powZ Z B (n-1)+n*P≤1048576):
  ∃R S:List Int,R.length=n∧S.length=n∧A1S n (mulE es) q (fun v=>R.getD v 0)∧(∀w,w<n→R.getD w 0=d.getD w 0-lap n (mulE es) (fun u=>S.getD u 0) w)∧S.getD q 0=0∧bndL 1048576 R∧bndL 1048576 S∧ACall Try.prog 71 [tG ⟨(n:Int),es⟩,A0g q,A0m d] (.tup [A0m R,A0m S,A0g 0])∧ACallH Try.prog 71 [] [ofT (tG ⟨(n:Int),es⟩),.c (.int .i64 (q:Int)),.c (.slice (A0p d) .none)] [.box [.int .i64 (n:Int),.slice (A0b es) .none],.ro [.int .i64 (n:Int),.slice (A0b es)],.box (iC R),.box (iC S)] (.tup [.c (.ref 2 1 0 n n),.c (.ref 3 1 0 n n),.c (.int .i64 0)]):=by
 have hm:=hE.rng
 obtain ⟨far,pB,hDE,hf⟩:=B9N (es:=es) (n:=n) (q:=q) (fun v x hx=>by have:=B2K hE hx; omega) _ (A6W n q,[q],0) (Nat.le_refl _) (B2E hq)
 have hz: ∀u,(List.replicate n (0:Int)).getD u 0=0:=fun u=>by
  rw [List.getD_eq_getElem?_getD,List.getElem?_replicate]; split<;>rfl
 have hzl:(List.replicate n (0:Int)).length=n:=by simp
 have hP0:0≤P:=Int.le_trans (A0W fun v _=>by omega) hP
 have hnP:0≤(n:Int)*P:=Int.mul_nonneg (by omega) hP0
 have hXB:=A60 (show 0≤Z by omega) (n-1) hB0
 have hL: ∀k:Nat,(∀v,v<n→far.getD v 0≤k)→LInv n es far d k B (d,List.replicate n 0):=fun k hk=>⟨hd,hzl,fun w hw=>by
   have:lap n (mulE es) (fun u=>(List.replicate n (0:Int)).getD u 0) w=0:=by
    unfold lap; exact A0M fun u _=>by simp only [hz]; simp
   simp only
   rw [this]; omega,hB,fun i=>by simp only; rw [hz]; omega,fun v=>by simp only; rw [hz]; exact Int.le_refl _,fun v hv hkv=>by have:=hk v hv; omega⟩
 have hL1:=hL (n-1) fun v hv=>by have:=hf.bnd v hv; omega
 obtain ⟨K9,hK9⟩: ∃k:Nat,A4R far (n-1)=(k:Int):=by
  have h:=A5V far (n-1) q (by omega)
  rw [hf.q0] at h
  exact Int.eq_ofNat_of_zero_le h
 obtain ⟨i0,hi0,hmx⟩:=A98 far (n-1)
 have hKn:K9≤n-1:=by have:=hf.bnd i0 (by omega); omega
 have hL2:=(hL K9 fun v hv=>by have:=A5V far (n-1) v (by omega); omega).all hE hm1 hf hZ hsz K9 hB0
 have hPK:powZ Z B K9≤powZ Z B (n-1):=by
  have key: ∀(a:Nat) {X:Int},0≤X→ ∀b,powZ Z X a≤powZ Z X (a+b):=fun a=>by
   induction a with
   | zero=>intro X hX b; rw [Nat.zero_add]; exact A60 (by omega) b hX
   | succ a ih=>
    intro X hX b
    rw [show a+1+b=(a+b)+1 by omega]
    unfold powZ
    exact ih (by have:=Int.mul_nonneg (show 0≤Z by omega) hX; omega) b
  have:=key K9 hB0 (n-1-K9)
  rw [show K9+(n-1-K9)=n-1 by omega] at this
  exact this
 have hLd:=fun W hW=>B6X n q es d (List.replicate n 0) h1 h12 hq hl hE hm1 far pB hDE hf d B Z hB0 hZ hsz (by omega) hL1 W hW
 rw [hK9,Int.toNat_natCast] at hLd
 generalize hX:powZ Z B (n-1)=X at*
 generalize hXK:powZ Z B K9=XK at*
 generalize hW1:B1V n es far K9 (d,List.replicate n 0)=W1 at*
 have hLd1:=hLd W1 rfl
 clear hLd
 obtain ⟨d1,s1⟩:=W1
 have hd1:=hL2.dl
 have hs1:=hL2.sl
 have hsb1:=hL2.sb q
 have hsp1:=hL2.sp
 simp only at hd1 hs1 hLd1 hsb1 hsp1
 have hS0:SInv n es q d X 0 (s1.getD q 0) (d1,s1):=⟨hd1,hs1,hL2.led,fun v hv hne=>hL2.don v hv (B8z hE hM hq hf hv hne),by have:=hL2.db q; simp only at this ⊢; omega,fun v hv=>by have:=hsp1 v; simp only; omega,rfl⟩
 have hP':sumR (fun v=>if v=q then 0 else max 0 (d.getD v 0)) n≤P:=Int.le_trans (A1s fun v _=>by (try dsimp only); split<;>omega) hP
 have hsq:=hsp1 q
 generalize s1.getD q 0=sq at*
 obtain ⟨W,Zb,hW,hSW,hBu,hBa⟩:=B9O hE hM hq hP' (n*(sq+n*P)-sumR (fun v=>s1.getD v 0) n).toNat (d1,s1) hS0 (by show n*(sq+n*P)-sumR (fun v=>s1.getD v 0) n≤_; omega)
 have hSt:=(B3S n q es d1 s1 h1 h12 hq hl hE hM d X X sq P 1048576 (by omega) hP (by omega) (by omega) (by omega) (by omega) (hS0.mono (by omega)) W Zb hW).trim (Nat.le_refl _) (show A9h _ (.tup []) from fun x hx=>by cases hx) (B0A n q es _ _ (m:=5) (by decide))
 obtain ⟨hb1,hb2⟩:=(hSW.mono (show 0≤X by omega)).bnd hE hM hq hP (by omega) (by omega) hX1 hX2
 have htop:=hSW.top hE hM hq hP'
 obtain ⟨R,s2⟩:=W
 have hRl:=hSW.dl
 have hsl:=hSW.sl
 have hqq:=hSW.sq
 have hlow:=hSW.low
 have hled:=hSW.led
 simp only at hRl hsl hqq hlow htop hb1 hb2 hSt hled
 have hget: ∀v,v<n→(A2p s2 sq n).getD v 0=s2.getD v 0-sq:=fun v hv=>by
  rw [A5X s2 sq v n (by omega),if_pos hv]
 have hSb:bndL 1048576 (A2p s2 sq n):=fun v=>by
  by_cases hv:v<n
  ·rw [hget v hv]
   have:=htop v hv
   have:=hlow v hv
   omega
  ·rw [List.getD_eq_getElem?_getD,List.getElem?_eq_none (by rw [A3C]; omega)]
   simp
 have hSl:(A2p s2 sq n).length=n:=by rw [A3C]; exact hsl
 refine ⟨R,A2p s2 sq n,hRl,hSl,B57 hE hq hSW.don hBu hBa,fun w hw=> ?_,by rw [hget q hq]; omega,hb1,hSb,?_⟩
 ·rw [hled w hw]
  congr 1
  unfold lap
  exact A0k fun u hu=>by
   show mulE es w u*(s2.getD w 0-s2.getD u 0)=mulE es w u*((A2p s2 sq n).getD w 0-(A2p s2 sq n).getD u 0)
   rw [hget u hu,hget w hw]; congr 1; omega
 ·have hRs:=B58 n q es R s2 h1 h12 hq hRl hsl hb1 (A0t hb2 (by decide)) (by rw [hqq]; exact hSb)
  rw [hqq] at hRs
  have hG:=B59 n q es d hq hd h1 h12 (by omega) hc hcc (A0t hB (by omega))
  have hBg:=B7a n q es d h1 h12 hd
  generalize A2p s2 sq n=S at*
  have hbi: ∀(H:List Blk) (k:IntKind) (x:Int),A0e H (.int k x)=some (.int k x):=fun _ _ _=>rfl
  have hr2:A0e [.box [.int .i64 (n:Int),.slice (A0b es) .none],.ro [.int .i64 (n:Int),.slice (A0b es)],.box (iC R),.box (iC S),.roC [.tree (.int .i64 (n:Int)),.tree (.slice (A0b es)),.tree (.int .i64 (q:Int)),.ref 2 1 0 n n,.ref 3 1 0 n n,.tree (.int .i64 0)]] (.ref 2 1 0 n n)=some (.slice (A0p R)):=A4X hRl rfl
  have hr3:A0e [.box [.int .i64 (n:Int),.slice (A0b es) .none],.ro [.int .i64 (n:Int),.slice (A0b es)],.box (iC R),.box (iC S),.roC [.tree (.int .i64 (n:Int)),.tree (.slice (A0b es)),.tree (.int .i64 (q:Int)),.ref 2 1 0 n n,.ref 3 1 0 n n,.tree (.int .i64 0)]] (.ref 3 1 0 n n)=some (.slice (A0p S)):=A4X hSl rfl
  clear hL hL1 hL2 hS0 hSW hW hDE hf hBu hBa hE hM hP hP' htop hlow hled hget hSb hb1 hb2
  simp only [tG,ofT,A3i,A0x,List.map_cons,List.map_nil] at hBg
  refine ⟨?_,?_⟩
  ·
   refine ACall.of_body Try.func71 rfl (by kernel_rfl) ?_
   simp only [entry,Try.ntmps71,tG,A0g,A0m]
   refine zU ?_
   refine zJ (stop 5) trivial (zc hG trivial) (zc hBg trivial) trivial ?_
   refine AWp.freezeC (ks:=[.tree (.int .i64 (n:Int)),.tree (.slice (A0b es)),.tree (.int .i64 (q:Int)),.ref 2 1 0 n n,.ref 3 1 0 n n,.tree (.int .i64 0)]) 4 rfl rfl ?_
   simp only [List.set_cons_succ,List.set_cons_zero]
   refine zJ trivial trivial trivial (zc hLd1 (zc hSt (zc hRs trivial))) trivial ?_
   simp [A0E,A0C,Try.results71,A0y,A05,toT,hr2,hr3,hbi,A0m,A0g]
  ·have hT:ACallH Try.prog 71 [] [ofT (tG ⟨(n:Int),es⟩),.c (.int .i64 (q:Int)),.c (.slice (A0p d) .none)] ([.box [.int .i64 (n:Int),.slice (A0b es) .none],.ro [.int .i64 (n:Int),.slice (A0b es)],.box (iC R),.box (iC S)]++[.roC [.tree (.int .i64 (n:Int)),.tree (.slice (A0b es)),.tree (.int .i64 (q:Int)),.ref 2 1 0 n n,.ref 3 1 0 n n,.tree (.int .i64 0)]]) (.tup [.c (.ref 2 1 0 n n),.c (.ref 3 1 0 n n),.c (.int .i64 0)]):=by
    simp only [tG,ofT,A3i,A0x,List.map_cons,List.map_nil,List.cons_append,List.nil_append]
    refine ACallH.of_body Try.func71 rfl (by kernel_rfl) ?_
    simp only [entry,Try.ntmps71,List.length_cons,List.length_nil,Nat.reduceAdd,Nat.reduceSub,List.replicate_succ,List.replicate_zero,List.cons_append,List.nil_append]
    refine zJ (stop 5) trivial (zc hG trivial) (zc hBg trivial) trivial ?_
    refine AWp.freezeC (ks:=[.tree (.int .i64 (n:Int)),.tree (.slice (A0b es)),.tree (.int .i64 (q:Int)),.ref 2 1 0 n n,.ref 3 1 0 n n,.tree (.int .i64 0)]) 4 rfl rfl ?_
    simp only [List.set_cons_succ,List.set_cons_zero]
    refine zJ trivial trivial trivial (zc hLd1 (zc hSt (zc hRs trivial))) trivial ?_
    simp [A2W,A1M,A0y,A1L,Try.results71]
   have hg4:blkIn 4 (.box [.int .i64 (n:Int),.slice (A0b es) .none]):=by intro c hc; simp only [List.mem_cons,List.not_mem_nil,or_false] at hc; rcases hc with rfl | rfl<;>exact True.intro
   refine hT.trim (Nat.zero_le _) (fun x hx=> ?_) (A0i hg4 (A0i True.intro (A0i A0o (A0i A0o (A04 _)))))
   simp only [List.mem_cons,List.not_mem_nil,or_false] at hx
   rcases hx with rfl | rfl | rfl
   ·show 2<4
    decide
   ·show 3<4
    decide
   ·exact True.intro
end Go.Proofs.Ytdhfgihnoimoaaa
