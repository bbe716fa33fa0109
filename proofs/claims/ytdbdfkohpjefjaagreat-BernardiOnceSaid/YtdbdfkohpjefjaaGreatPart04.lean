/- A part of the proof. -/
import Derived.Test.YtdbdfkohpjefjaaGreatPart01
set_option linter.all false
set_option maxHeartbeats 4000000
set_option maxRecDepth 100000
namespace Go.Proofs.YtdbdfkohpjefjaaGreat
open Go.Sp
def A7y (l:List (Int×Int)):List (List TVal):=l.zipIdx.map fun p=>[A0k (p.2:Int),A3o p.1.1 p.1.2]
theorem A6W (l:List (Int×Int)):(A7y l).length=l.length:=by simp [A7y]
theorem B5Z {l:List (Int×Int)} {i:Nat} {p:Int×Int} (h:l[i]? =some p):(A7y l)[i]? =some [A0k (i:Int),A3o p.1 p.2]:=by
 simp [A7y,h]
theorem A6X {l:List (Int×Int)} {i:Nat} {ts:List TVal} (h:(A7y l)[i]? =some ts): ∃p,l[i]? =some p∧ts=[A0k (i:Int),A3o p.1 p.2]:=by
 simp only [A7y,QY,Qz4] at h;cases hl:l[i]? with
 | none=>simp [hl] at h
 | some p=>simp [hl] at h; exact ⟨p,rfl,h.symm⟩
theorem B7W {es:List E} {i k:Nat} (h:i<es.length) (hk:k<(es[i]'h).m.toNat):(endsL es)[(endsL (es.take i)).length+k]? =some (es[i].a,es[i].b):=by
 have e:endsL es=endsL (es.take i)++(List.replicate es[i].m.toNat (es[i].a,es[i].b)++endsL (es.drop (i+1))):=by
  rw [<-Zk,<-A1u h,<-A31,WJ]
 rw [e,QV (by omega),Nat.add_sub_cancel_left,Qv (by rw [Yx]; exact hk)];rw [Qx0,if_pos hk]
theorem A88 (g:G) (hs:(endsL g.es).length<2^40) (hl:g.es.length<2^40) (hm: ∀e,e∈g.es->e.m<2^40):AIter Tryz.prog 150 [.rptr [.int .i64 g.n,.slice (A0f g.es)]] (A7y (endsL g.es)):=by
 refine AIter.of_body Tryz.func150 rfl (by kernel_rfl) rfl (fun l J Jx hJ hJx hY=> ?_);simp only [entry,Tryz.ntmps150,ofT,A2T,A04,Xk,Zj,List.length_cons,List.length_nil,Nat.reduceAdd,Nat.reduceSub,List.replicate_succ,List.replicate_zero,List.cons_append,List.nil_append];refine zR (zc @A06 Qw9) Qw9 Qw9 ?_;refine AWp.loopS (α:=Nat) 30 (fun i=>[(0,.c (.yld l)),(1,.c (.rptr [.int .i64 g.n,.slice (A0f g.es)])),(3,.c (.int .i64 ((endsL (g.es.take i)).length:Int))),(7,.c (.slice (A0f g.es) .none)),(8,.c (.int .i64 (g.es.length:Int))),(9,.c (.int .i64 (i:Int)))]) (fun i=>[.ghost (J (endsL (g.es.take i)).length)]) (fun i=>i≤g.es.length) (fun i=>g.es.length-i) (0) (hk:=Weak.headL 1 30 [0,1,3,7,8,9] zW) (h0:=?_) (round:=fun i hI=>?_)
 ·exact Xj _
 ·by_cases hlt:i<g.es.length
  ·have e1:g.es[i]? =some g.es[i]:=Qq hlt;have e2:=A2e e1;have hle:=A6l g.es (i+1);rw [A1u hlt,Xv,Yx] at hle;have hmi:=hm g.es[i] (Xw hlt)
   repeat' (first|((first|(refine zT ?_;intro K' hK')|(refine zG ?_ ?_<;>(try refine zH ?_)<;>intro hguard<;>(try exact zX)<;>try intro K' hK'))<;>((try simp+contextual only [go_sem,A06,ZX,e2,Int.toNat_natCast]);(repeat' first|(with_reducible refine hK' _ _ ?_;clear hK' K')|exact zY|with_reducible refine Qw8 ?_ ?_|(with_reducible intro hpath;try exact zP)|(refine hK' _ _ ?_;clear hK' K')|fail);try refine zS ?_))|(refine zE ?_;refine hK _ _ ?_;clear hK K)|(refine zN ?_;try refine zS ?_)|refine zA ?_|(refine zB ?_;intro K hK)|(refine zC ?_ ?_<;>(try refine zH ?_)<;>intro hcond<;>try exact zX)|fail)
   ·
    refine AWp.loopS (α:=Nat) 30 (fun k=>[(0,.c (.yld l)),(1,.c (.rptr [.int .i64 g.n,.slice (A0f g.es)])),(3,.c (.int .i64 (((endsL (g.es.take i)).length+k:Nat):Int))),(5,.c (.ptr 1 0)),(7,.c (.slice (A0f g.es) .none)),(8,.c (.int .i64 (g.es.length:Int))),(9,.c (.int .i64 (i:Int))),(14,.c (.int .i64 g.es[i].m)),(15,.c (.int .i64 (k:Int)))]) (fun k=>[.ghost (J ((endsL (g.es.take i)).length+k)),.box [.int .i64 g.es[i].a,.int .i64 g.es[i].b,.int .i64 g.es[i].m]]) (fun k=>k≤g.es[i].m.toNat) (fun k=>g.es[i].m.toNat-k) (0) (hk:=Weak.headL 2 30 [0,1,3,5,7,8,9,14,15] zW) (h0:=?_) (round:=fun k hI=>?_)
    ·exact Xj _
    ·by_cases hk:(k:Int)<g.es[i].m
     ·
      have hk2:k<g.es[i].m.toNat:=by omega
      have hget:=B5Z (B7W hlt hk2)
      repeat' (first|((with_reducible refine AWp.seq (AWp.of_reg (id:=6) (AReg.pre 7 (fun K hK=>?_))));simp only [List.take_succ_cons,List.take_zero])|((with_reducible refine AWp.of_reg (id:=6) (AReg.pre 7 (fun K hK=>?_)));simp only [List.take_succ_cons,List.take_zero])|((first|(refine zT ?_;intro K' hK')|(refine zG ?_ ?_<;>(try refine zH ?_)<;>intro hguard<;>(try exact zX)<;>try intro K' hK'))<;>((try simp+contextual only [go_sem]);(repeat' first|(with_reducible refine hK' _ _ ?_;clear hK' K')|exact zY|with_reducible refine Qw8 ?_ ?_|(with_reducible intro hpath;try exact zP)|(refine hK' _ _ ?_;clear hK' K')|fail);try refine zS ?_))|(refine zE ?_;refine hK _ _ ?_;clear hK K)|(refine zN ?_;try refine zS ?_)|refine zA ?_|(refine zB ?_;intro K hK)|(refine zC ?_ ?_<;>(try refine zH ?_)<;>intro hcond<;>try exact zX)|fail)
      simp only [Zw,ZW];refine AReg.yield rfl rfl rfl (by rfl) (by with_unfolding_all rfl) (by simp [okBlk]) (hY _ _ hget) (hJ _) hJx ?_ ?_<;>(try refine zS ?_)<;>refine AReg.rest (fun K hK=> ?_)
      ·
       repeat' (first|((first|(refine zT ?_;intro K' hK')|(refine zG ?_ ?_<;>(try refine zH ?_)<;>intro hguard<;>(try exact zX)<;>try intro K' hK'))<;>((try simp+contextual only [go_sem]);(repeat' first|(with_reducible refine hK' _ _ ?_;clear hK' K')|exact zY|with_reducible refine Qw8 ?_ ?_|(with_reducible intro hpath;try exact zP)|(refine hK' _ _ ?_;clear hK' K')|fail);try refine zS ?_))|(refine zE ?_;refine hK _ _ ?_;clear hK K)|(refine zN ?_;try refine zS ?_)|refine zA ?_|(refine zB ?_;intro K hK)|(refine zC ?_ ?_<;>(try refine zH ?_)<;>intro hcond<;>try exact zX)|fail)
       refine ⟨k+1,Weak.headF 2 30 [0,1,3,5,7,8,9,14,15] (zc @WQ Qw9) zW,?_,?_⟩
       ·exact hk2
       ·omega
      ·
       repeat' (first|((first|(refine zT ?_;intro K' hK')|(refine zG ?_ ?_<;>(try refine zH ?_)<;>intro hguard<;>(try exact zX)<;>try intro K' hK'))<;>((try simp+contextual only [go_sem]);(repeat' first|(with_reducible refine hK' _ _ ?_;clear hK' K')|exact zY|with_reducible refine Qw8 ?_ ?_|(with_reducible intro hpath;try exact zP)|(refine hK' _ _ ?_;clear hK' K')|fail);try refine zS ?_))|(refine zE ?_;refine hK _ _ ?_;clear hK K)|(refine zN ?_;try refine zS ?_)|refine zA ?_|(refine zB ?_;intro K hK)|(refine zC ?_ ?_<;>(try refine zH ?_)<;>intro hcond<;>try exact zX)|fail)
       exact ⟨Qw7,_,.inr rfl⟩
     ·
      have ek:k=g.es[i].m.toNat:=by omega
      refine zR (zc @e2 Qw9) Qw9 Qw9 ?_;refine ⟨i+1,Weak.headN 1 30 [0,1,3,7,8,9] zW (e1:=by first|rfl|(simp [mask,A1C,A1u hlt,ek];done)|(simp [mask,A1C,A1u hlt,ek]<;>simp_all<;>omega)) (e2:=by first|rfl|(simp [mask,A1C,A1u hlt,ek];done)|(simp [mask,A1C,A1u hlt,ek]<;>simp_all<;>omega)),?_,?_⟩
      ·exact hlt
      ·omega
  ·have ei:i=g.es.length:=by omega
   refine zR (zc @A06 (zc @ZX Qw9)) Qw9 Qw9 ?_;exact ⟨Qw7,_,.inl (by rw [A6W,ei,Zy])⟩
theorem A9R (g:G):ACall Tryz.prog 94 [tG g] (.t (.fn 150 [.rptr [.int .i64 g.n,.slice (A0f g.es)]])):=by
 refine ACall.of_body Tryz.func94 rfl (by kernel_rfl) ?_;simp only [entry,Tryz.ntmps94,tG];refine zU ?_;refine zR Qw9 Qw9 Qw9 ?_;simp [A0y,A0x,Blk.cells,ty,Tryz.results94,A0s,A0t,toT,A0d,A0b,A0c,A0a]
theorem B1S {l:List (Int×Int)} {n:Nat} (hn:n=2) (k:Nat) (ts:List TVal) (h:(A7y l)[k]? =some ts):ts.length=n:=by
 obtain ⟨p,_,rfl⟩:=A6X h; exact hn.symm
theorem take_snoc {α:Type} {l:List α} {k:Nat} {p:α} (h:l[k]? =some p):l.take (k+1)=l.take k++[p]:=by
 obtain ⟨hk,rfl⟩:=Qx.1 h;exact XX hk
theorem B3o {n:Int} {es:List E}: ∀{k:Nat},k≤es.length->(A4K n es k=0↔ ∀i,es.length-k≤i->i<es.length->A4J n es i=0):=by
 intro k
 induction k with
 | zero=>intro _; simp only [A4K,true_iff]; intro i h1 h2; omega
 | succ k ih=>
  intro hk;simp only [A4K];by_cases h:A4J n es (es.length-(k+1))=0
  ·rw [if_neg (by simp [h]),ih (by omega)];constructor
   ·intro hx i h1 h2;by_cases e:i=es.length-(k+1)
    ·subst e; exact h
    ·exact hx i (by omega) h2
   ·intro hx i h1 h2; exact hx i (by omega) h2
  ·rw [if_pos h];constructor
   ·intro hx; exact absurd hx h
   ·intro hx; exact absurd (hx _ (QQ _) (by omega)) h
def ltE (x y:E):Prop:=x.a<y.a∨(x.a=y.a∧x.b<y.b)
def okE (n:Int) (x:E):Prop:=0≤x.a∧x.a≤x.b∧x.b<n∧1≤x.m∧x.m≤50
theorem A6o {n:Int} {es:List E} {i:Nat} (hi:i<es.length):A4J n es i=0↔okE n es[i]∧ ∀j (hj:j+1=i),ltE (es[j]'(by omega)) es[i]:=by
 unfold A4J okE ltE;rw [Qq hi];simp only;by_cases h1: ¬(0≤es[i].a∧es[i].a<n)∨ ¬(0≤es[i].b∧es[i].b<n)∨es[i].m<1∨50<es[i].m
 ·rw [if_pos h1]; constructor
  ·intro h; omega
  ·rintro ⟨h,_⟩; omega
 ·rw [if_neg h1];by_cases h2:es[i].b<es[i].a
  ·rw [if_pos h2]; constructor
   ·intro h; omega
   ·rintro ⟨h,_⟩; omega
  ·rw [if_neg h2];cases i with
   | zero=>simp only [true_iff]; exact ⟨by omega,fun j hj=>by omega⟩
   | succ j=>
    have hj:j<es.length:=by omega
    simp only [Qq hj];constructor
    ·intro h;split at h
     ·omega
     ·refine ⟨by omega,fun j' e=> ?_⟩;have:j'=j:=by omega
      subst this; omega
    ·rintro ⟨h,h3⟩;have:=h3 j rfl;rw [if_neg (by omega)]
theorem A0h {g:G}:checkG g=0↔(1≤g.n∧g.n≤12)∧(∀e,e∈g.es->okE g.n e)∧g.es.Pairwise ltE:=by
 unfold checkG;by_cases h1:g.n<1∨12<g.n
 ·rw [if_pos h1]; constructor
  ·intro h; omega
  ·rintro ⟨h,_⟩; omega
 ·rw [if_neg h1,B3o (QQ _),JQ];constructor
  ·intro h;refine ⟨by omega,fun e he=> ?_,?_⟩
   ·obtain ⟨i,hi,rfl⟩:=YJ.1 he;exact ((A6o hi).1 (h i (Xj _) hi)).1
   ·rw [Yz];intro i j hi hj hij;have step: ∀d (hd:i+1+d<g.es.length),ltE g.es[i] g.es[i+1+d]:=by
     intro d
     induction d with
     | zero=>intro hd; exact ((A6o hd).1 (h _ (Xj _) hd)).2 i (by omega)
     | succ d ih=>
      intro hd;have h2:=ih (by omega);have h3:=((A6o hd).1 (h _ (Xj _) hd)).2 (i+1+d) (by omega);unfold ltE at*; omega
    have:=step (j-(i+1)) (by omega);have e:i+1+(j-(i+1))=j:=by omega
    simp only [e] at this;exact this
  ·rintro ⟨_,h2,h3⟩ i _ hi;rw [Yz] at h3;exact (A6o hi).2 ⟨h2 _ (Xw hi),fun j hj=>h3 j i (by omega) hi (by omega)⟩
theorem A6p {es:List E} (h: ∀e,e∈es->e.m≤50):(endsL es).length≤50*es.length:=by
 induction es with
 | nil=>simp [endsL]
 | cons x xs ih=>
  have h1:=h x (by simp);have h2:=ih fun e he=>h e (by simp [he]);have e:endsL (x::xs)=endsL [x]++endsL xs:=by rw [<-A31]; rfl
  rw [e,Xv,B1P,Yx,List.length_cons]; omega
structure Sm (g:G):Prop where
 es:g.es.length<2^40
 m: ∀e,e∈g.es->e.m<2^40
 s:(endsL g.es).length<2^40
theorem A9y {g:G} (hl:g.es.length<2^30) (h:checkG g=0):Sm g:=by
 obtain ⟨_,h2,_⟩:=A0h.1 h;refine ⟨by omega,fun e he=> ?_,?_⟩
 ·have:=h2 e he; unfold okE at this; omega
 ·have:=A6p (es:=g.es) fun e he=>by have:=h2 e he; unfold okE at this; omega
  omega
def A0C (l:List (Int×Int)):TVal:= .t (.slice (A1c l))
attribute [go_sem] A0C
theorem B3p (g:G) (hl:g.es.length<2^30):ACall Tryz.prog 122 [tG g] (if checkG g≠0 then .tup [.t (.slice []),A0k (checkG g)] else .tup [A0C (endsL g.es),A0k 0]):=by
 refine ACall.of_body Tryz.func122 rfl (by kernel_rfl) ?_;simp only [entry,Tryz.ntmps122,tG];refine zU ?_
 repeat' (first|((first|(refine zT ?_;intro K' hK')|(refine zG ?_ ?_<;>(try refine zH ?_)<;>intro hguard<;>(try exact zX)<;>try intro K' hK'))<;>((try simp+contextual only [go_sem]);(repeat' first|(with_reducible refine hK' _ _ ?_;clear hK' K')|((with_reducible first|refine zL (c:=A7J g (by omega)) (q:=?_)|refine zK (A9R g) ?_);try simp+contextual only [go_sem])|exact zY|with_reducible refine Qw8 ?_ ?_|(with_reducible intro hpath;try exact zP)|(refine hK' _ _ ?_;clear hK' K')|fail);try refine zS ?_))|(refine zE ?_;refine hK _ _ ?_;clear hK K)|(refine zN ?_;try refine zS ?_)|refine zA ?_|(refine zB ?_;intro K hK)|(refine zC ?_ ?_<;>(try refine zH ?_)<;>intro hcond<;>try exact zX)|fail)
 ·rw [if_pos (by assumption)];simp [A0y,A0x,Blk.cells,ty,Tryz.results122,A0s,A0t,toT,A0d,A0b,A0c,A0a,A0k]
 ·
  rw [if_neg (by omega)];have hs:=A9y hl (by omega);refine AWp.weak (Weak.openB 1 0 2 rfl rfl (by omega)) ?_;simp only [List.set_cons_succ,List.set_cons_zero,List.length_cons,List.length_nil,Xv,Nat.reduceAdd,List.cons_append,List.nil_append];refine AWp.weak (Weak.head (m:=3) (by omega) ((fun t f=>[f,t,f,f,f,t,f,f,f,f,f,f,f,f,t,f,f,f,f,f,f,f,f,f,f,f]) true false) (by first | rfl | simp [mask]) (by first | rfl | simp) (by (repeat' (first | exact A0n _ | refine A0j ?_ ?_ | refine A0g ?_ ?_ | exact A0i _ | exact Qw7 | (show _<_; omega) | (intro c hc; cases hc; done) | (intro c hc; simp only [Qw,Qk,or_false] at hc; subst hc; first | exact Qw7 | (show _<_; omega)) | (intro c hc; simp only [Qw,Qk,or_false] at hc; rcases hc with rfl | rfl<;>first | exact Qw7 | (show _<_; omega))))) (by (repeat' (first | exact A0n _ | exact A0v _ | exact A0i _ | refine Qw8 ?_ ?_ | refine A0j ?_ ?_ | refine A0l ?_ ?_ | refine A0g ?_ ?_ | exact Qw7 | (show _<_; omega) | exact A0q (fun _=>Qw7) | (intro c hc; cases hc; done) | (intro c hc; simp only [Qw,Qk,or_false] at hc; subst hc; first | exact Qw7 | (show _<_; omega)) | (intro c hc; simp only [Qw,Qk,or_false] at hc; rcases hc with rfl | rfl<;>first | exact Qw7 | (show _<_; omega)))))) (AWp.rangeFunc (fun k H=>H=[.box [.int .i64 g.n,.slice (A0f g.es) .none],.box [.slice (A1c ((endsL g.es).take k)) (.chain 2)],.chain ((endsL g.es).take k).length 2]∧(True)) (fun _ _=>False) 3 rfl (A88 g hs.s hs.es hs.m) (B1S rfl) (by omega) (by (repeat' (first | exact A0n _ | refine A0j ?_ ?_ | refine A0g ?_ ?_ | exact A0i _ | exact Qw7 | (show _<_; omega) | (intro c hc; cases hc; done) | (intro c hc; simp only [Qw,Qk,or_false] at hc; subst hc; first | exact Qw7 | (show _<_; omega)) | (intro c hc; simp only [Qw,Qk,or_false] at hc; rcases hc with rfl | rfl<;>first | exact Qw7 | (show _<_; omega))))) (by rintro _ _ ⟨rfl,-⟩; simp) (fun _ _ h=>h.elim) ?_ (fun l k ts H hts hI=> ?_) (fun H hI=> ?_) (fun e H h=>h.elim))
  ·exact ⟨rfl,trivial⟩
  ·obtain ⟨rfl,-⟩:=hI;obtain ⟨p,hp,rfl⟩:=A6X hts;simp only [mask,A4u,List.zip_cons_cons,WV,List.zip_nil_left,List.foldl_cons,List.foldl_nil,List.set_cons_succ,List.set_cons_zero,ofT,A2T,A04,Xk,Zj,ofT,A2T,toT,A0t,A0a,A0k,A0z,A3o,tG];have hk:k<(endsL g.es).length:=(Qx.1 hp).1;have hkl:((endsL g.es).take k).length=k:=by rw [Wv]; omega
   have:=hs.s;refine zRc (zc @A02 (zc @A9N (zc @hkl Qw9))) Qw9 @A6k ?_;refine ⟨⟨_,_⟩,Weak.head2 (m:=3) (by decide) ((fun t f=>[f,f,f,f,f,f,f,f,f,f,f,f,f,f,f,f,f,f,f,f,f,f,f,f,f,f]) true false) rfl rfl zW,?_,?_⟩
   ·simp [take_snoc hp,hkl]
   ·trivial
  ·obtain ⟨rfl,-⟩:=hI;simp only [mask];refine zR Qw9 Qw9 Qw9 ?_;simp [A0y,A0x,Blk.cells,ty,Tryz.results122,A0s,A0t,toT,A0d,A0b,A0c,A0a,A0k,A0C,A6W]
end Go.Proofs.YtdbdfkohpjefjaaGreat
