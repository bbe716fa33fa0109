/- A part of the proof. -/
import Derived.Test.YtdhfgihnoimoaaaLayerC
import Derived.Test.YtdhfgihnoimoaaaPart38
set_option linter.all false
set_option maxHeartbeats 4000000
set_option maxRecDepth 100000
namespace Go.Proofs.Ytdhfgihnoimoaaa
open Go.Sp
theorem B7I (k:Nat) (l:List Int):(iC l).mapM (A6o k)=some (iC l):=by
 induction l with
 | nil=>rfl
 | cons x l ih=>
  unfold iC at ih ⊢
  rw [List.map_cons,List.mapM_cons,ih]; rfl
@[simp] theorem B9K (B:List Blk) (a b c d e f:Blk):(B++[a,b,c,d,e,f]).take (B.length+6)=B++[a,b,c,d,e,f]:=List.take_of_length_le (by simp)
theorem B7h {n:Nat} {es es2:List E} {G B0:Int} {N:Nat} (c:RkC n es G B0 N): ∀(k:Nat) (d:List Int) (M:List (MKey×MV)) (B:List Blk) (x:ACell),MOk n es N M→d.length=n→bndL B0 d→(sumD d n+1).toNat≤k→
  A0e (.box [.int .i64 (n:Int),.slice (A0b es) .none]:: .box [.int .i64 (n:Int),.slice (A0b es) .none]:: .box [.int .i64 (n:Int),.slice (A0b es2) .none]:: .map (M):: .box [.int .i64 (n:Int),.slice (A0b es) .none,.int .i64 G,.map 3]::(B)) x=some (.slice (A0p d))→(∀b,b∈B→ ∀m,blkIn m b)→
  ACallE Try.prog 66 (.box [.int .i64 (n:Int),.slice (A0b es) .none]:: .box [.int .i64 (n:Int),.slice (A0b es) .none]:: .box [.int .i64 (n:Int),.slice (A0b es2) .none]:: .map (M):: .box [.int .i64 (n:Int),.slice (A0b es) .none,.int .i64 G,.map 3]::(B)) [.c (.ptr 4 0),.c x] (fun H' r=> ∃M',MOk n es N M'∧H'= .box [.int .i64 (n:Int),.slice (A0b es) .none]:: .box [.int .i64 (n:Int),.slice (A0b es) .none]:: .box [.int .i64 (n:Int),.slice (A0b es2) .none]:: .map (M'):: .box [.int .i64 (n:Int),.slice (A0b es) .none,.int .i64 G,.map 3]::(B)∧r= .tup [.c (.int .i64 (rkD n (mulE es) fun v=>d.getD v 0)),.c (.int .i64 0)]):=by
 intro k
 induction k using Nat.strongRecOn with
 | ind k ih=>
 intro d M B x hMk hd hb hk hx hB
 have g:=c.g
 have h1:=g.h1
 have h12:=g.h12
 have hM:=g.hM
 have h0:0<n:=by omega
 refine (ACallE.trim (B.length+5) (R:=fun H2 r=> ∃M' X,MOk n es N M'∧H2= .box [.int .i64 (n:Int),.slice (A0b es) .none]:: .box [.int .i64 (n:Int),.slice (A0b es) .none]:: .box [.int .i64 (n:Int),.slice (A0b es2) .none]:: .map (M'):: .box [.int .i64 (n:Int),.slice (A0b es) .none,.int .i64 G,.map 3]::(B++X)∧r= .tup [.c (.int .i64 (rkD n (mulE es) fun v=>d.getD v 0)),.c (.int .i64 0)]) ?_ (by simp) ?_).mono ?_
 rotate_left
 ·rintro H2 r ⟨M',X,hM',rfl,rfl⟩
  have e:(.box [.int .i64 (n:Int),.slice (A0b es) .none]:: .box [.int .i64 (n:Int),.slice (A0b es) .none]:: .box [.int .i64 (n:Int),.slice (A0b es2) .none]:: .map (M'):: .box [.int .i64 (n:Int),.slice (A0b es) .none,.int .i64 G,.map 3]::(B++X)).take (B.length+5)= .box [.int .i64 (n:Int),.slice (A0b es) .none]:: .box [.int .i64 (n:Int),.slice (A0b es) .none]:: .box [.int .i64 (n:Int),.slice (A0b es2) .none]:: .map (M'):: .box [.int .i64 (n:Int),.slice (A0b es) .none,.int .i64 G,.map 3]::(B):=by simp
  rw [e]
  refine ⟨?_,fun y hy=> ?_⟩
  ·intro b hbm
   simp only [List.mem_cons] at hbm
   rcases hbm with rfl | rfl | rfl | rfl | rfl | hbm
   ·intro c hc; simp only [List.mem_cons,List.not_mem_nil,or_false] at hc; rcases hc with rfl | rfl<;>exact True.intro
   ·intro c hc; simp only [List.mem_cons,List.not_mem_nil,or_false] at hc; rcases hc with rfl | rfl<;>exact True.intro
   ·intro c hc; simp only [List.mem_cons,List.not_mem_nil,or_false] at hc; rcases hc with rfl | rfl<;>exact True.intro
   ·exact True.intro
   ·intro c hc; simp only [List.mem_cons,List.not_mem_nil,or_false] at hc; rcases hc with rfl | rfl | rfl | rfl<;>first | exact True.intro | (show _<_; omega)
   ·exact hB b hbm _
  ·simp only [List.mem_cons,List.not_mem_nil,or_false] at hy
   rcases hy with rfl | rfl<;>exact True.intro
 ·rintro H' r ⟨H2,⟨M',X,hM',rfl,rfl⟩,rfl⟩
  exact ⟨M',hM',by simp,rfl⟩
 have hdb:bndL 1048576 d:=(c.dok hd hb).small
 have hsb:=A4N hdb n
 have hDeg:ACallH Try.prog 84 (.box [.int .i64 (n:Int),.slice (A0b es) .none]:: .box [.int .i64 (n:Int),.slice (A0b es) .none]:: .box [.int .i64 (n:Int),.slice (A0b es2) .none]:: .map (M):: .box [.int .i64 (n:Int),.slice (A0b es) .none,.int .i64 G,.map 3]::(B)) [.c x] (.box [.int .i64 (n:Int),.slice (A0b es) .none]:: .box [.int .i64 (n:Int),.slice (A0b es) .none]:: .box [.int .i64 (n:Int),.slice (A0b es2) .none]:: .map (M):: .box [.int .i64 (n:Int),.slice (A0b es) .none,.int .i64 G,.map 3]::(B)) (.tup [.c (.int .i64 (sumD d n)),.c (.int .i64 0)]):=by
  refine ACall.hb (B3T d n h1 h12 hd hdb) ?_ rfl
  simp only [List.mapM_cons,List.mapM_nil,toT,hx,Option.map_some]; rfl
 have hsum: -(12582912:Int)≤sumD d n∧sumD d n≤12582912:=by
  have:sumD d n=sumR (fun v=>d.getD v 0) n:=rfl
  rw [this]; omega
 have hgb:=c.gb
 refine ACallE.of_body Try.func66 rfl (by kernel_rfl) ?_
 simp only [entry,Try.ntmps66,List.length_cons,List.length_nil,Nat.reduceAdd,Nat.reduceSub,List.replicate_succ,List.replicate_zero,List.cons_append,List.nil_append]
 by_cases hneg:sumD d n<0
 ·have hr:rkD n (mulE es) (fun v=>d.getD v 0)= -1:=by
   have hlo:=A44 (n:=n) (M:=mulE es) fun v=>d.getD v 0
   have hnw: ¬0≤rkD n (mulE es) (fun v=>d.getD v 0):=fun h=>by
    have:=((B06 hM h0).1 h).deg hM
    have e:sumD d n=sumR (fun v=>d.getD v 0) n:=rfl
    omega
   omega
  rw [hr]
  refine zJ trivial (zc @hneg trivial) trivial (zc hDeg trivial) trivial ?_
  exact ⟨trivial,_,⟨M,[],hMk,by rw [List.append_nil],rfl⟩,by simp [A1M,A0y,A1L,Try.results66]⟩
 by_cases hbig:sumD d n>2*G-2
 ·have hr:rkD n (mulE es) (fun v=>d.getD v 0)=sumD d n-G:=B6M hM h0 c.gen hbig
  rw [hr]
  generalize sumD d n=sm at*
  refine zJ trivial (zc @hneg (zc @hbig trivial)) trivial (zc hDeg trivial) trivial ?_
  exact ⟨trivial,_,⟨M,[],hMk,by rw [List.append_nil],rfl⟩,by simp [A1M,A0y,A1L,Try.results66]⟩
 obtain ⟨b,R,S,w1,w2,w3,w4,w5,w6,w7,w8,w9,wB⟩:=A8j g (c.dok hd hb)
 have heq:A5m n (mulE es) (fun v=>d.getD v 0) (fun v=>R.getD v 0):=⟨fun u=>S.getD u 0,fun v hv=>w5 v hv⟩
 have hrk:rkD n (mulE es) (fun v=>d.getD v 0)=rkD n (mulE es) (fun v=>R.getD v 0):=B7E hM h0 heq
 have hsR:sumD R n=sumD d n:=heq.deg hM
 have hlen5:(.box [.int .i64 (n:Int),.slice (A0b es) .none]:: .box [.int .i64 (n:Int),.slice (A0b es) .none]:: .box [.int .i64 (n:Int),.slice (A0b es2) .none]:: .map (M):: .box [.int .i64 (n:Int),.slice (A0b es) .none,.int .i64 G,.map 3]::(B)).length=B.length+5:=by simp
 have hW:ACallH Try.prog 48 (.box [.int .i64 (n:Int),.slice (A0b es) .none]:: .box [.int .i64 (n:Int),.slice (A0b es) .none]:: .box [.int .i64 (n:Int),.slice (A0b es2) .none]:: .map (M):: .box [.int .i64 (n:Int),.slice (A0b es) .none,.int .i64 G,.map 3]::(B)) [.agg [.int .i64 (n:Int),.slice (A0b es) .none],.c x] ((.box [.int .i64 (n:Int),.slice (A0b es) .none]:: .box [.int .i64 (n:Int),.slice (A0b es) .none]:: .box [.int .i64 (n:Int),.slice (A0b es2) .none]:: .map (M):: .box [.int .i64 (n:Int),.slice (A0b es) .none,.int .i64 G,.map 3]::(B))++[.dead,.dead,.dead,.box (iC R),.box (iC S)]) (.tup [.c (.bool b),.c (.ref (B.length+8) 1 0 n n),.c (.ref (B.length+9) 1 0 n n),.c (.int .i64 0)]):=by
  refine ACallH.frameB (ts:=[tG ⟨(n:Int),es⟩,A0m d]) (r':= .tup [.c (.bool b),.c (.ref (B.length+8) 1 0 n n),.c (.ref (B.length+9) 1 0 n n),.c (.int .i64 0)]) wB ?_ rfl (fun id hid=> ?_) ?_
  ·simp only [List.mapM_cons,List.mapM_nil,toT,hx,Option.map_some]; rfl
  ·simp only [List.length_cons,List.length_nil,Nat.reduceAdd] at hid
   match id,hid with
   | 0,_=>exact .inr rfl
   | 1,_=>exact .inr rfl
   | 2,_=>exact .inr rfl
   | 3,_=>exact .inl ⟨_,_,rfl,B7I _ _,rfl⟩
   | 4,_=>exact .inl ⟨_,_,rfl,B7I _ _,rfl⟩
  ·rw [hlen5]; rfl
 simp only [List.cons_append] at hW
 clear wB w9
 cases b with
 | false=>
  have hr:rkD n (mulE es) (fun v=>d.getD v 0)= -1:=by
   have hlo:=A44 (n:=n) (M:=mulE es) fun v=>d.getD v 0
   have hnw: ¬0≤rkD n (mulE es) (fun v=>d.getD v 0):=fun h=>by
    have:=w1.2 ((B06 hM h0).1 h)
    cases this
   omega
  rw [hr]
  generalize sumD d n=sm at*
  refine zJ trivial (zc @hneg (zc @hbig trivial)) trivial (zc hDeg (zc hW trivial)) trivial ?_
  exact ⟨trivial,_,⟨M,[.dead,.dead,.dead,.box (iC R),.box (iC S)],hMk,rfl,rfl⟩,by simp [A1M,A0y,A1L,Try.results66]⟩
 | true=>
  have hwd:=w1.1 rfl
  have hwR:win n (mulE es) (fun v=>R.getD v 0):=hwd.eqv heq
  have hR0:0≤R.getD 0 0:=(A9x hM h0 w4).1 hwR
  have hRn: ∀v,v<n→0≤R.getD v 0:=fun v hv=>by
   by_cases e:v=0
   ·rw [e]; exact hR0
   ·exact w4.1 v hv e
  have hRs: ∀v,v<n→R.getD v 0≤sumD d n:=fun v hv=>by rw [←hsR]; exact A0X (f:=fun v=>R.getD v 0) hRn hv
  have hN1:=c.N1
  have hN2:=c.N2
  have hRx: ∀y,y∈R→0≤y∧y≤(N:Int):=fun y hy=>by
   obtain ⟨i,hi,rfl⟩:=List.mem_iff_getElem.1 hy
   have h2:=hRn i (by omega)
   have h3:=hRs i (by omega)
   rw [List.getD_eq_getElem?_getD,List.getElem?_eq_getElem hi] at h2 h3
   simp only [Option.getD_some] at h2 h3
   omega
  have hkok:=B9u (R:=R) (by omega) (fun y hy=>by have:=hRx y hy; omega)
  have hkeys:=hMk.keys h12 (by omega)
  have hkst:=B7g (R:=R) (by omega)
  have hkl:=B7H (R:=R) (by omega)
  have htoK:=B7f (kp R)
  rw [hrk]
  have eA: ∀X:List Blk,(B++X)[B.length]? =X[0]? :=fun X=>by rw [List.getElem?_append_right (Nat.le_refl _),Nat.sub_self]
  have eA1: ∀(j:Nat) (X:List Blk),(B++X)[B.length+j]? =X[j]? :=fun j X=>by rw [List.getElem?_append_right (by omega)]; congr 1; omega
  have sA1: ∀(j:Nat) (X:List Blk) (b:Blk),(B++X).set (B.length+j) b=B++X.set j b:=fun j X b=>by rw [List.set_append_right _ _ (by omega),show B.length+j-B.length=j by omega]
  have hz12:(iC (List.replicate 12 0))=[.int .i64 0,.int .i64 0,.int .i64 0,.int .i64 0,.int .i64 0,.int .i64 0,.int .i64 0,.int .i64 0,.int .i64 0,.int .i64 0,.int .i64 0,.int .i64 0]:=rfl
  rw [hz12] at hkst
  have hRl:=w2
  have hany: ∀c,c∈(iC R).take n→c≠ .any:=fun c hc=>by
   have:=List.mem_of_mem_take hc
   obtain ⟨y,_,rfl⟩:=List.mem_map.1 this
   simp
  have htk:(iC R).take n=iC R:=List.take_of_length_le (by rw [A0F]; omega)
  have hmn:Nat.min n 12=n:=Nat.min_eq_left h12
  repeat' ((fail_if_success (with_reducible refine AWp.atSeq 14 ?_));(fail_if_success (with_reducible refine AWp.atLast 14 ?_));first|((first|(refine zT ?_;intro K' hK')|(refine zG ?_ ?_<;>(try refine zH ?_)<;>intro hguard<;>(try exact zX)<;>try intro K' hK'))<;>((try simp+contextual only [go_sem,hneg,hbig]);(repeat' first|(with_reducible refine hK' _ _ ?_;clear hK' K')|((with_reducible first|refine ⟨_,_,hDeg,?_⟩|refine ⟨_,hDeg,?_⟩|refine ⟨_,_,hW,?_⟩|refine ⟨_,hW,?_⟩);try simp+contextual only [go_sem,hneg,hbig])|exact zY|with_reducible refine And.intro ?_ ?_|(with_reducible intro hpath;try exact zP)|(refine hK' _ _ ?_;clear hK' K')|fail);try refine zS ?_))|(refine zE ?_;refine hK _ _ ?_;clear hK K)|(refine zN ?_;try refine zS ?_)|refine zA ?_|(refine zB ?_;intro K hK)|(refine zC ?_ ?_<;>(try refine zH ?_)<;>intro hcond<;>try exact zX)|fail)
  simp only [Nat.add_assoc,Nat.reduceAdd,List.append_assoc,List.cons_append,List.nil_append]
  refine AWp.seq (AWp.of_reg ?_)
  refine AReg.step rfl rfl (A8u (n:=12) (e:=3) _ _ rfl (by simp only [ty]) (by simp only [ty]) (by decide) rfl) ?_
  refine AReg.step rfl rfl (A2K _ (.inl rfl)) ?_
  simp only [A1u,List.set_cons_succ,List.set_cons_zero]
  have hjK:(.box [.int .i64 (n:Int),.slice (A0b es) .none]:: .box [.int .i64 (n:Int),.slice (A0b es) .none]:: .box [.int .i64 (n:Int),.slice (A0b es2) .none]:: .map (M):: .box [.int .i64 (n:Int),.slice (A0b es) .none,.int .i64 G,.map 3]::(B++[.dead,.dead,.dead,.box (iC R),.box (iC S),.box [.int .i64 0,.int .i64 0,.int .i64 0,.int .i64 0,.int .i64 0,.int .i64 0,.int .i64 0,.int .i64 0,.int .i64 0,.int .i64 0,.int .i64 0,.int .i64 0]]))[B.length+10]? =some (.box [.int .i64 0,.int .i64 0,.int .i64 0,.int .i64 0,.int .i64 0,.int .i64 0,.int .i64 0,.int .i64 0,.int .i64 0,.int .i64 0,.int .i64 0,.int .i64 0]):=by
   simp only [List.getElem?_cons_succ,eA1]; rfl
  have hjR:(.box [.int .i64 (n:Int),.slice (A0b es) .none]:: .box [.int .i64 (n:Int),.slice (A0b es) .none]:: .box [.int .i64 (n:Int),.slice (A0b es2) .none]:: .map (M):: .box [.int .i64 (n:Int),.slice (A0b es) .none,.int .i64 G,.map 3]::(B++[.dead,.dead,.dead,.box (iC R),.box (iC S),.box [.int .i64 0,.int .i64 0,.int .i64 0,.int .i64 0,.int .i64 0,.int .i64 0,.int .i64 0,.int .i64 0,.int .i64 0,.int .i64 0,.int .i64 0,.int .i64 0]]))[B.length+8]? =some (.box (iC R)):=by
   simp only [List.getElem?_cons_succ,eA1]; rfl
  refine AReg.step rfl rfl (A9p (e:=3) (n:=n) _ _ _ _ rfl (by simp only [ty]) (by simp only [ty]) rfl rfl hjK hjR hmn (by simp; omega) (by rw [A0F]; omega) (by rw [List.drop_zero]; exact hany)) ?_
  clear hjK hjR
  simp only [List.drop_zero,htk,hkst,List.set_cons_succ,List.set_cons_zero,sA1]
  refine AReg.rest (fun K hK=> ?_)
  have htk12:(iC (kp R)).take 12=iC (kp R):=List.take_of_length_le (by rw [A0F,hkl]; exact Nat.le_refl _)
  cases hh:A9S M (.ints (kp R)) with
  | true=>
   have hval:=hMk.val (z:= .c (.int .i64 0)) w2 hh
   generalize rkD n (mulE es) (fun v=>R.getD v 0)=rk at*
   repeat' ((fail_if_success (with_reducible refine AWp.atSeq 99 ?_));(fail_if_success (with_reducible refine AWp.atLast 99 ?_));first|((first|(refine zT ?_;intro K' hK')|(refine zG ?_ ?_<;>(try refine zH ?_)<;>intro hguard<;>(try exact zX)<;>try intro K' hK'))<;>((try simp+contextual only [go_sem,eA1,A0F,hkl,htoK,hh,hval,htk12,List.drop_zero]);(repeat' first|(with_reducible refine hK' _ _ ?_;clear hK' K')|(refine ⟨_,B5E,hkok,hkeys,?_⟩)|exact zY|with_reducible refine And.intro ?_ ?_|(with_reducible intro hpath;try exact zP)|(refine hK' _ _ ?_;clear hK' K')|fail);try refine zS ?_))|(refine zE ?_;refine hK _ _ ?_;clear hK K)|(refine zN ?_;try refine zS ?_)|refine zA ?_|(refine zB ?_;intro K hK)|(refine zC ?_ ?_<;>(try refine zH ?_)<;>intro hcond<;>try exact zX)|fail)
   exact ⟨trivial,_,⟨M,_,hMk,rfl,rfl⟩,by simp [A1M,A0y,A1L,Try.results66]⟩
  | false=>
   have hroom:=hMk.room w2 hRx hh
   have hval:=B5F (z:= .c (.int .i64 0)) hh
   have hlim:=c.lim
   have hml: ¬((M.length:Int)=16384):=by omega
   have hls:=B82 hM h0 w2 hwR
   rw [hsR] at hls
   have hlow:=fun j=>B2O (n:=n) (es:=es) (R:=R) (deg:=sumD d n) (by omega) j
   have hlst1: ∀j,B1Z n es R (sumD d n) (j+1)=min (B1Z n es R (sumD d n) j) (rkD n (mulE es) (fun v=>(R.set j (R.getD j 0-1)).getD v 0)+1):=fun j=>rfl
   have hlst0:B1Z n es R (sumD d n) 0=sumD d n:=rfl
   have hb2:=c.b2
   have hb1:=c.b1
   repeat' (first|((with_reducible refine AWp.seq (AWp.of_reg (id:=18) (AReg.pre 4 (fun K hK=>?_))));simp only [List.take_succ_cons,List.take_zero])|((with_reducible refine AWp.of_reg (id:=18) (AReg.pre 4 (fun K hK=>?_)));simp only [List.take_succ_cons,List.take_zero])|((first|(refine zT ?_;intro K' hK')|(refine zG ?_ ?_<;>(try refine zH ?_)<;>intro hguard<;>(try exact zX)<;>try intro K' hK'))<;>((try simp+contextual only [go_sem,eA1,A0F,hkl,htoK,hh,hval,htk12,List.drop_zero]);(repeat' first|(with_reducible refine hK' _ _ ?_;clear hK' K')|(refine ⟨_,B5E,hkok,hkeys,?_⟩)|exact zY|with_reducible refine And.intro ?_ ?_|(with_reducible intro hpath;try exact zP)|(refine hK' _ _ ?_;clear hK' K')|fail);try refine zS ?_))|(refine zE ?_;refine hK _ _ ?_;clear hK K)|(refine zN ?_;try refine zS ?_)|refine zA ?_|(refine zB ?_;intro K hK)|(refine zC ?_ ?_<;>(try refine zH ?_)<;>intro hcond<;>try exact zX)|fail)
   simp only [List.drop_succ_cons,List.drop_zero]
   refine AReg.lenmap rfl rfl rfl B81 rfl rfl ?_
   simp only [A1u,List.set_cons_succ,List.set_cons_zero]
   refine AReg.rest (fun K hK=> ?_)
   repeat' ((fail_if_success (with_reducible refine AWp.atSeq 99 ?_));(fail_if_success (with_reducible refine AWp.atLast 99 ?_));first|((first|(refine zT ?_;intro K' hK')|(refine zG ?_ ?_<;>(try refine zH ?_)<;>intro hguard<;>(try exact zX)<;>try intro K' hK'))<;>((try simp+contextual only [go_sem,hml]);(repeat' first|(with_reducible refine hK' _ _ ?_;clear hK' K')|exact zY|with_reducible refine And.intro ?_ ?_|(with_reducible intro hpath;try exact zP)|(refine hK' _ _ ?_;clear hK' K')|fail);try refine zS ?_))|(refine zE ?_;refine hK _ _ ?_;clear hK K)|(refine zN ?_;try refine zS ?_)|refine zA ?_|(refine zB ?_;intro K hK)|(refine zC ?_ ?_<;>(try refine zH ?_)<;>intro hcond<;>try exact zX)|fail)
   refine AWp.loopS (α:=(Nat×List (MKey×MV))) 117 (fun s=>[(0,.c (.ptr 4 0)),(9,.c (.ref (B.length+8) 1 0 n n)),(11,.c (.ptr (B.length+10) 0)),(14,.c (.int .i64 (B1Z n es R (sumD d n) s.1))),(80,.c (.int .i64 (n:Int))),(81,.c (.int .i64 (s.1:Int)))]) (fun s=>.box [.int .i64 (n:Int),.slice (A0b es) .none]:: .box [.int .i64 (n:Int),.slice (A0b es) .none]:: .box [.int .i64 (n:Int),.slice (A0b es2) .none]:: .map (s.2):: .box [.int .i64 (n:Int),.slice (A0b es) .none,.int .i64 G,.map 3]::(B++[.dead,.dead,.dead,.box (iC R),.box (iC S),.box (iC (kp R))])) (fun s=>s.1≤n∧MOk n es N s.2) (fun s=>n-s.1) ((0,M)) (hk:=A0s.headL (B.length+11) 117 [0,9,11,14,80,81] (by (repeat' (first | exact A0q _ | exact A04 _ | exact A0l _ | refine And.intro ?_ ?_ | refine A0n ?_ ?_ | refine A0i ?_ ?_ | refine A0h ?_ ?_ | exact True.intro | exact A0o | exact inB (by assumption) (by intro b hb; simp only [List.mem_cons,List.not_mem_nil,or_false] at hb; rcases hb with rfl | rfl | rfl | rfl | rfl | rfl<;>first | exact True.intro | exact A0o) | (show _<_; omega) | exact A01 (fun _=>True.intro) | (intro c hc; cases hc; done) | (intro c hc; simp only [List.mem_cons,List.not_mem_nil,or_false] at hc; subst hc; first | exact True.intro | exact A0o | exact inB (by assumption) (by intro b hb; simp only [List.mem_cons,List.not_mem_nil,or_false] at hb; rcases hb with rfl | rfl | rfl | rfl | rfl | rfl<;>first | exact True.intro | exact A0o) | (show _<_; omega)) | (intro c hc; simp only [List.mem_cons,List.not_mem_nil,or_false] at hc; rcases hc with rfl | rfl<;>first | exact True.intro | exact A0o | exact inB (by assumption) (by intro b hb; simp only [List.mem_cons,List.not_mem_nil,or_false] at hb; rcases hb with rfl | rfl | rfl | rfl | rfl | rfl<;>first | exact True.intro | exact A0o) | (show _<_; omega)))))) (h0:=?_) (round:=fun s hI=>?_)
   ·exact ⟨Nat.zero_le _,hMk⟩
   ·obtain ⟨v,M1⟩:=s
    obtain ⟨hv,hM1⟩:=hI
    simp only at hv hM1 ⊢
    by_cases hvl:v<n
    ·have hvI:(v:Int)<(n:Int):=by omega
     have g1:=A1J (A0u (d:=R) (i:=v) (by omega))
     have x1:=hRn v hvl
     have x2:=hRs v hvl
     have hsum1:sumD (R.set v (R.getD v 0-1)) n=sumD d n-1:=by
      rw [←hsR]
      have:=B3H (fun v=>R.getD v 0) (n:=n) hvl
      have e:sumD (R.set v (R.getD v 0-1)) n=sumR (A5p (fun v=>R.getD v 0) v) n:=A0k fun u _=>B0Q w2 hvl u
      rw [e,this]; rfl
     have hbn:bndL B0 (R.set v (R.getD v 0-1)):=A3S (fun u=>by
      by_cases hu:u<n
      ·have:=hRn u hu; have:=hRs u hu; omega
      ·rw [List.getD_eq_getElem?_getD,List.getElem?_eq_none (by omega)]; simp; omega) v (by omega)
     have hl1:=hlst1 v
     have hlw:=hlow v
     have hst:=A2z R v (R.getD v 0-1)
     have hlen1:(R.set v (R.getD v 0-1)).length=n:=by rw [List.length_set]; exact w2
     have hst2:=A2z (R.set v (R.getD v 0-1)) v (R.getD v 0)
     have hback:(R.set v (R.getD v 0-1)).set v (R.getD v 0)=R:=by
      rw [List.set_set]
      apply List.ext_getElem?
      intro j
      rw [List.getElem?_set]
      by_cases e:v=j
      ·subst e; rw [if_pos rfl,if_pos (by omega)]; exact (A0u (by omega)).symm
      ·rw [if_neg e]
     rw [hback] at hst2
     have g2:(iC (R.set v (R.getD v 0-1)))[v]? =some (.int .i64 (R.getD v 0-1)):=by rw [←hst]; exact List.getElem?_set_self (by rw [A0F]; omega)
     have hrl:=A44 (n:=n) (M:=mulE es) (fun u=>(R.set v (R.getD v 0-1)).getD u 0)
     have hru:rkD n (mulE es) (fun u=>(R.set v (R.getD v 0-1)).getD u 0)≤12582912:=by
      by_cases h:0≤rkD n (mulE es) (fun u=>(R.set v (R.getD v 0-1)).getD u 0)
      ·have h2:=B5k hM h0 h
       have e:sumD (R.set v (R.getD v 0-1)) n=sumR (fun u=>(R.set v (R.getD v 0-1)).getD u 0) n:=rfl
       omega
      ·omega
     generalize R.getD v 0=y at*
     have hy1:y-1+1=y:=by omega
     have hrec:=fun (hbw)=>ih (k-1) (by omega) (R.set v (y-1)) M1 (B++[.dead,.dead,.dead,.box (iC (R.set v (y-1))),.box (iC S),.box (iC (kp R))]) (.ref (B.length+8) 1 0 n n) hM1 hlen1 hbn (by omega) hbw (fun b hb m=>by
      rcases List.mem_append.1 hb with hb | hb
      ·exact hB b hb m
      ·simp only [List.mem_cons,List.not_mem_nil,or_false] at hb
       rcases hb with rfl | rfl | rfl | rfl | rfl | rfl
       ·exact True.intro
       ·exact True.intro
       ·exact True.intro
       ·exact A0o
       ·exact A0o
       ·exact A0o)
     have hrec2:=hrec (A4X hlen1 (by simp only [List.getElem?_cons_succ,eA1]; rfl))
     clear hrec hbn hsum1 ih
     have hrkn: ∀z,rkD n (mulE es) (fun u=>(R.set v (y-1)).getD u 0)=z→z=rkD n (mulE es) (fun u=>(R.set v (y-1)).getD u 0):=fun z h=>h.symm
     generalize hR1:R.set v (y-1)=R1 at*
     generalize rkD n (mulE es) (fun u=>R1.getD u 0)=rk1 at*
     clear hrkn
     generalize hL1:B1Z n es R (sumD d n) (v+1)=l1 at*
     generalize B1Z n es R (sumD d n) v=l0 at*
     repeat' (first|((with_reducible refine AWp.seq (AWp.of_reg (id:=25) (AReg.pre 2 (fun K hK=>?_))));simp only [List.take_succ_cons,List.take_zero])|((with_reducible refine AWp.of_reg (id:=25) (AReg.pre 2 (fun K hK=>?_)));simp only [List.take_succ_cons,List.take_zero])|((first|(refine zT ?_;intro K' hK')|(refine zG ?_ ?_<;>(try refine zH ?_)<;>intro hguard<;>(try exact zX)<;>try intro K' hK'))<;>((try simp+contextual only [go_sem,hvI,eA1,sA1,g1,hst,A0F,w2,Int.toNat_natCast,Nat.mul_one,Nat.zero_add]);(repeat' first|(with_reducible refine hK' _ _ ?_;clear hK' K')|exact zY|with_reducible refine And.intro ?_ ?_|(with_reducible intro hpath;try exact zP)|(refine hK' _ _ ?_;clear hK' K')|fail);try refine zS ?_))|(refine zE ?_;refine hK _ _ ?_;clear hK K)|(refine zN ?_;try refine zS ?_)|refine zA ?_|(refine zB ?_;intro K hK)|(refine zC ?_ ?_<;>(try refine zH ?_)<;>intro hcond<;>try exact zX)|fail)
     simp only [List.drop_succ_cons,List.drop_zero]
     refine AReg.callE rfl rfl rfl rfl hrec2 (fun H' r hr=> ?_)
     obtain ⟨M2,hM2,rfl,rfl⟩:=hr
     simp only [A1u,List.set_cons_succ,List.set_cons_zero]
     refine AReg.rest (fun K hK=> ?_)
     repeat' (first|((first|(refine zT ?_;intro K' hK')|(refine zG ?_ ?_<;>(try refine zH ?_)<;>intro hguard<;>(try exact zX)<;>try intro K' hK'))<;>((try simp+contextual only [go_sem,hvI,eA1,sA1,g2,hst2,hy1,A0F,hlen1,Int.toNat_natCast,Nat.mul_one,Nat.zero_add]);(repeat' first|(with_reducible refine hK' _ _ ?_;clear hK' K')|exact zY|with_reducible refine And.intro ?_ ?_|(with_reducible intro hpath;try exact zP)|(refine hK' _ _ ?_;clear hK' K')|fail);try refine zS ?_))|(refine zE ?_;refine hK _ _ ?_;clear hK K)|(refine zN ?_;try refine zS ?_)|refine zA ?_|(refine zB ?_;intro K hK)|(refine zC ?_ ?_<;>(try refine zH ?_)<;>intro hcond<;>try exact zX)|fail)
     refine ⟨(v+1,M2),A0s.headF (B.length+11) 117 [0,9,11,14,80,81] (zc @hL1 (zc @hl1 trivial)) (by (repeat' (first | exact A0q _ | exact A04 _ | exact A0l _ | refine And.intro ?_ ?_ | refine A0n ?_ ?_ | refine A0i ?_ ?_ | refine A0h ?_ ?_ | exact True.intro | exact A0o | exact inB (by assumption) (by intro b hb; simp only [List.mem_cons,List.not_mem_nil,or_false] at hb; rcases hb with rfl | rfl | rfl | rfl | rfl | rfl<;>first | exact True.intro | exact A0o) | (show _<_; omega) | exact A01 (fun _=>True.intro) | (intro c hc; cases hc; done) | (intro c hc; simp only [List.mem_cons,List.not_mem_nil,or_false] at hc; subst hc; first | exact True.intro | exact A0o | exact inB (by assumption) (by intro b hb; simp only [List.mem_cons,List.not_mem_nil,or_false] at hb; rcases hb with rfl | rfl | rfl | rfl | rfl | rfl<;>first | exact True.intro | exact A0o) | (show _<_; omega)) | (intro c hc; simp only [List.mem_cons,List.not_mem_nil,or_false] at hc; rcases hc with rfl | rfl<;>first | exact True.intro | exact A0o | exact inB (by assumption) (by intro b hb; simp only [List.mem_cons,List.not_mem_nil,or_false] at hb; rcases hb with rfl | rfl | rfl | rfl | rfl | rfl<;>first | exact True.intro | exact A0o) | (show _<_; omega))))),?_,?_⟩
     ·exact ⟨hvl,hM2⟩
     ·simp only; omega
    ·have hnl: ¬(v:Int)<(n:Int):=by omega
     have ev:v=n:=by omega
     rw [ev,hls]
     rw [ev] at hnl
     have hput:=hM1.put w2 hRx
     have hkeys1:=hM1.keys h12 (by omega)
     generalize rkD n (mulE es) (fun v=>R.getD v 0)=rk at*
     repeat' ((fail_if_success (with_reducible refine AWp.atSeq 99 ?_));(fail_if_success (with_reducible refine AWp.atLast 99 ?_));first|((first|(refine zT ?_;intro K' hK')|(refine zG ?_ ?_<;>(try refine zH ?_)<;>intro hguard<;>(try exact zX)<;>try intro K' hK'))<;>((try simp+contextual only [go_sem,hnl,eA1,A0F,hkl,htoK,htk12,List.drop_zero]);(repeat' first|(with_reducible refine hK' _ _ ?_;clear hK' K')|(refine ⟨_,B5E,hkok,hkeys1,?_⟩)|exact zY|with_reducible refine And.intro ?_ ?_|(with_reducible intro hpath;try exact zP)|(refine hK' _ _ ?_;clear hK' K')|fail);try refine zS ?_))|(refine zE ?_;refine hK _ _ ?_;clear hK K)|(refine zN ?_;try refine zS ?_)|refine zA ?_|(refine zB ?_;intro K hK)|(refine zC ?_ ?_<;>(try refine zH ?_)<;>intro hcond<;>try exact zX)|fail)
     exact ⟨trivial,_,⟨B4t M1 (.ints (kp R)) (.c (.int .i64 rk)),_,hput,rfl,rfl⟩,by simp [A1M,A0y,A1L,Try.results66]⟩
end Go.Proofs.Ytdhfgihnoimoaaa
