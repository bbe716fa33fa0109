/- A part of the proof. -/
import Derived.Test.YtdbdfkohpjefjaaGreatPart45
import Derived.Test.YtdbdfkohpjefjaaGreatPart46
import Derived.Test.YtdbdfkohpjefjaaGreatPart47
set_option linter.all false
set_option maxHeartbeats 4000000
set_option maxRecDepth 100000
namespace Go.Proofs.YtdbdfkohpjefjaaGreat
open Go.Sp
theorem C5k (n:Int) (es:List E) (a b:Nat): ∀(id:Nat) (blk:Blk),[Blk.box [.int .i64 n,.slice (A0f es) .none],.dead,.chain a b][id]? =some blk->B6U blk:=C0C fun blk hb=>by
 simp only [Qw,Qv,or_false] at hb;rcases hb with rfl | rfl | rfl
 ·intro c hc;simp only [Qw,Qv,or_false] at hc;rcases hc with rfl | rfl
  ·exact Qw6
  ·exact B8f es
 ·exact Qw6
 ·exact Qw6
noncomputable def C4z (g:G):List (List Int):=(tI (treesG g)).map (A5q (B6i g))
theorem C3p (g:G) (hl:g.es.length≤40) (hT:A0s g=0->(treesG g).length≤16384):
  ACall Tryz.prog 26 [tG g] (.tup [A0N (if A0s g≠0 then [] else sortLL (C4z g)),A0m (A0s g)]):=by
 have hJ:=A9S g hl;by_cases h0:A0s g=0
 ·rw [if_neg (by omega)];have hR:=B3s g hl;have hA:=B36 g hl (hT h0);have hTl:=hT h0;rw [h0] at hR hA hJ ⊢;have hr:=B9o h0;have hs:RSm (B6i g):=C2J hl h0;have h12:1≤g.n∧g.n≤12:=(A0j.1 hr.c).1;have hD: ∀t,t∈tI (treesG g)->ACall Tryz.prog 56 [tR (B6i g),A0n t] (A0n (A5q (B6i g) t)):=fun t ht=>by
   have:=A2Z hr ht;have h3:(B6i g).n.toNat=g.n.toNat:=rfl;exact A2w (B6i g) t hs this.1 (by omega)
  have hne:tI (treesG g)≠[]:=by
   obtain ⟨hM,hJ2⟩:=B9q h0;obtain ⟨T,hT2⟩:=C1j hr hM hJ2;intro e;have:zI T∈tI (treesG g):=Xq.2 ⟨T,hT2,rfl⟩;rw [e] at this; cases this
  have hdl: ∀t,(A5q (B6i g) t).length≤12:=fun t=>by rw [B4G]; show g.n.toNat≤12; omega
  have hR2:ACall Tryz.prog 79 [tG g] (.tup [tR (B6i g),A0m 0]):=hR;have hA2:ACall Tryz.prog 25 [tG g] (.tup [A0N (tI (treesG g)),A0m 0]):=hA;clear hR hA hT;have hTl2:(tI (treesG g)).length≤16384:=by rw [B2n]; exact hTl
  unfold C4z;generalize A5q (B6i g)=dF at*;generalize tI (treesG g)=Ts at*;have hln:(Ts.map dF).length=Ts.length:=XW _;have hS:=fun (H:List Blk) (cap:Nat) hid=>C1k (Ts.map dF) (by rw [hln]; exact Wj.2 hne) (by omega) (fun B hB=>by obtain ⟨t,_,rfl⟩:=Xq.1 hB; have:=hdl t; omega) (H:=H) (id:=3) (cap:=cap) hid;generalize B6i g=r0 at*;clear hr hs hTl h12;obtain ⟨rn,res,rar⟩:=r0;obtain ⟨n,es⟩:=g;refine ACall.of_bodyF Tryz.func26 rfl (by kernel_rfl) ?_;simp only [entry,Tryz.ntmps26,tG];refine zU ?_
  repeat' ((fail_if_success (with_reducible refine AWp.atSeq 11 ?_));(fail_if_success (with_reducible refine AWp.atLast 11 ?_));first|((first|(refine zT ?_;intro K' hK')|(refine zG ?_ ?_<;>(try refine zH ?_)<;>intro hguard<;>(try exact zX)<;>try intro K' hK'))<;>((try simp+contextual only [go_sem]);(repeat' first|(with_reducible refine hK' _ _ ?_;clear hK' K')|((with_reducible first|refine zK hJ ?_|refine zK hR2 ?_|refine zK hA2 ?_);try simp+contextual only [go_sem])|exact zY|with_reducible refine Qw7 ?_ ?_|(with_reducible intro hpath;try exact zP)|(refine hK' _ _ ?_;clear hK' K')|fail);try refine zS ?_))|(refine zE ?_;refine hK _ _ ?_;clear hK K)|(refine zN ?_;try refine zS ?_)|refine zA ?_|(refine zB ?_;intro K hK)|(refine zC ?_ ?_<;>(try refine zH ?_)<;>intro hcond<;>try exact zX)|(with_reducible refine FWp.seq ?_)|fail)
  refine AWp.weak (Weak.opens ((fun t f=>[f,f,f,f,f,f,f,f,t,f,f,f,f,f,f,f,f,f,f,f,f,f,f,f,f,f,f,f,f,f,f,f,f,f,f,f,f,f,f,f,f,f,f,f,f,f,f,f]) true false) 1 (by first | omega | simp)) ?_;simp only [A2i,A66,List.length_cons,List.length_nil,Xw,Nat.reduceAdd,List.cons_append,List.nil_append]
  repeat' (first|((first|(refine zT ?_;intro K' hK')|(refine zG ?_ ?_<;>(try refine zH ?_)<;>intro hguard<;>(try exact zX)<;>try intro K' hK'))<;>((try simp+contextual only [go_sem,A0q]);(repeat' first|(with_reducible refine hK' _ _ ?_;clear hK' K')|exact zY|with_reducible refine Qw7 ?_ ?_|(with_reducible intro hpath;try exact zP)|(refine hK' _ _ ?_;clear hK' K')|fail);try refine zS ?_))|(refine zE ?_;refine hK _ _ ?_;clear hK K)|(refine zN ?_;try refine zS ?_)|refine zA ?_|(refine zB ?_;intro K hK)|(refine zC ?_ ?_<;>(try refine zH ?_)<;>intro hcond<;>try exact zX)|(with_reducible refine FWp.seq ?_)|fail)
  refine AWp.loopS (α:=Nat) 48 (fun i=>[(5,.c (.ptr 1 0)),(8,.c (.slice (A0x ((Ts.take i).map dF)) (.chain 2))),(32,.c (.slice (A0x Ts) .none)),(33,.c (.int .i64 (Ts.length:Int))),(34,.c (.int .i64 (i:Int)))]) (fun i=>[.box [.int .i64 n,.slice (A0f es) .none],.box [.int .i64 rn,.slice (A0f res) .none,.slice (A0x rar) .none],.chain i 1]) (fun i=>i≤Ts.length) (fun i=>Ts.length-i) (0) (hk:=Weak.headL 3 48 [5,8,32,33,34] (zV @C3a)) (h0:=?_) (round:=fun i hI=>?_)
  ·exact Xj _
  ·have hi:i≤Ts.length:=hI;clear hI;by_cases hlt:i<Ts.length
   ·have hltI:(i:Int)<(Ts.length:Int):=by omega
    have e0:=Qq hlt;have e1:=A0X e0;have d1:=hD _ (Xv hlt);have t1:(Ts.take (i+1)).map dF=(Ts.take i).map dF++[dF Ts[i]]:=by rw [XX hlt,WY]; rfl
    have hlk:((Ts.take i).map dF).length=i:=by rw [XW,Wz]; omega
    generalize dF Ts[i]=y at*;generalize Ts[i]=x at*;generalize hK1:(Ts.take (i+1)).map dF=K1 at*;generalize (Ts.take i).map dF=K0 at*;refine zRc (zc @hltI (zc @e1 (zc @A0q (zc @A3Q (zc @hlk Qw8))))) (zc d1 Qw8) @A2u ?_;rw [<-t1];refine ⟨i+1,Weak.headF 3 48 [5,8,32,33,34] (zc @hK1 Qw8) (zV @C3a),?_,?_⟩
    ·exact hlt
    ·omega
   ·have ei:i=Ts.length:=by omega
    have hnl: ¬((i:Int)<(Ts.length:Int)):=by omega
    rw [ei] at hnl;rw [ei,Zw];have hne2:Ts.map dF≠[]:=by simpa using hne
    generalize Ts.map dF=O at*;rw [<-hln] at hnl;rw [<-hln]
    repeat' ((fail_if_success (with_reducible refine FWp.atSeq 16 ?_));first|((first|(refine zT ?_;intro K' hK')|(refine zG ?_ ?_<;>(try refine zH ?_)<;>intro hguard<;>(try exact zX)<;>try intro K' hK'))<;>((try simp+contextual only [go_sem,hnl]);(repeat' first|(with_reducible refine hK' _ _ ?_;clear hK' K')|exact zY|with_reducible refine Qw7 ?_ ?_|(with_reducible intro hpath;try exact zP)|(refine hK' _ _ ?_;clear hK' K')|fail);try refine zS ?_))|(refine zE ?_;refine hK _ _ ?_;clear hK K)|(refine zN ?_;try refine zS ?_)|refine zA ?_|(refine zB ?_;intro K hK)|(refine zC ?_ ?_<;>(try refine zH ?_)<;>intro hcond<;>try exact zX)|(with_reducible refine FWp.seq ?_)|fail)
    refine FWp.weak (Weak.head2 (m:=3) (by omega) ((fun t f=>[f,f,f,f,f,f,f,f,t,f,f,f,f,f,f,f,f,f,f,f,f,f,f,f,f,f,f,f,f,f,f,f,f,f,f,f,f,f,f,f,f,f,f,f,f,f,f,f]) true false) rfl rfl (zV @C3a)) ?_;simp only [mask,List.take_succ_cons,List.take_zero,List.set_cons_succ,List.set_cons_zero];refine FWp.weak (Weak.dead 1 rfl (Xj _)) ?_;simp only [List.set_cons_succ,List.set_cons_zero];refine FWp.thawLT 8 rfl rfl (fun r hr=>A2u hr) (by decide) (fun r hr=>C0B hr) (by simpa [A0x] using hne2) (C5k _ _ _ _) (by simp [C2e,B2G,A8V]) (fun id h=>absurd h (Nat.not_lt_zero _)) (fun cap hcap=> ?_);rw [C3b,A0q];rw [A0q] at hcap;simp only [List.length_cons,List.length_nil,List.set_cons_succ,List.set_cons_zero,List.cons_append,List.nil_append,Nat.reduceAdd];refine FWp.of_awp ?_;have hsl:(sortLL O).length=O.length:=(A2l O).length_eq;have hS2:=hS [.box [.int .i64 n,.slice (A0f es) .none],.dead,.chain O.length 1,.box (sC O)] cap rfl;generalize sortLL O=X at*
    repeat' (first|((first|(refine zT ?_;intro K' hK')|(refine zG ?_ ?_<;>(try refine zH ?_)<;>intro hguard<;>(try exact zX)<;>try intro K' hK'))<;>((try simp+contextual only [go_sem]);(repeat' first|(with_reducible refine hK' _ _ ?_;clear hK' K')|((with_reducible first|refine ⟨_,_,hS2,?_⟩|refine ⟨_,hS2,?_⟩);try simp+contextual only [go_sem])|exact zY|with_reducible refine Qw7 ?_ ?_|(with_reducible intro hpath;try exact zP)|(refine hK' _ _ ?_;clear hK' K')|fail);try refine zS ?_))|(refine zE ?_;refine hK _ _ ?_;clear hK K)|(refine zN ?_;try refine zS ?_)|refine zA ?_|(refine zB ?_;intro K hK)|(refine zC ?_ ?_<;>(try refine zH ?_)<;>intro hcond<;>try exact zX)|fail)
    have h1:=C3c X;rw [hsl] at h1;have h2:(sC X).take O.length=sC X:=Zz (by rw [C1C]; omega);simp [A0z,A0y,Tryz.results26,A0t,A0u,A0d,A0b,Blk.cells,hcap,h2,h1.1,h1.2];rw [if_pos (by rw [C1C]; omega)];rfl
 ·rw [if_pos h0];generalize A0s g=e at*;obtain ⟨n',es⟩:=g;refine ACall.of_body Tryz.func26 rfl (by kernel_rfl) ?_;simp only [entry,Tryz.ntmps26,tG];refine zU ?_;refine zR (zc @h0 Qw8) (zc hJ Qw8) Qw8 ?_;simp [A0z,A0y,Blk.cells,ty,Tryz.results26,A0t,A0u,toT,A0d,A0b,A0c,A0a,A0m,A0N,A0x]
set_option maxHeartbeats 2000000
set_option maxHeartbeats 2000000
theorem C3q {r:R} {q:List Int->Bool} {T:List Nat} (hT:T∈treesG r.g) (hq:q (A5q r (zI T))=true) (hu: ∀T',T'∈treesG r.g->q (A5q r (zI T'))=true->T'=T):C1f r q (tI (treesG r.g))=some (zI T):=by
 unfold C1f;cases h:(tI (treesG r.g)).find? (fun t=>q (A5q r t)) with
 | none=>
  rw [List.find?_eq_none] at h;exact absurd hq (h (zI T) (Xq.2 ⟨T,hT,rfl⟩))
 | some t=>
  have h1:=List.find?_some h;obtain ⟨T',hT',e⟩:=Xq.1 (List.mem_of_find?_eq_some h);subst e;rw [hu T' hT' h1]; rfl
set_option maxHeartbeats 2000000
theorem B4L {r:R} (h:ribE r=0) {T:List Nat} (hT:T∈treesG r.g):B2w r (zI T)=0:=by
 have hr:=B7Q h;obtain ⟨h1,h2⟩:=B0a hr hT;have h3:=A3s.1 hT;have hj:A0s r.g=0:=by unfold A0s; rw [if_neg (by have:=hr.c; omega),if_pos hr.conn]
 have hs:A4h (endsL r.g.es).length none (zI T)=0:=A81 h1 (Jj.2 (h3.1.imp fun {a b} hab=>by omega)) (fun w hw=>by cases hw);have hn:=A4G hr;unfold B2w;rw [if_neg (by omega)];unfold A7r;rw [if_neg (by omega),if_neg (by omega),if_neg ?_,if_pos (show treeB r.g.n.toNat (endsL r.g.es) (zI T)=true from h2)];have hl:(zI T).length=T.length:=by unfold zI; rw [XW]
 have h4:T.length+1=r.n.toNat:=h3.2.2.1;have e:r.g.n=r.n:=rfl;rw [hl,e]; omega
set_option maxHeartbeats 2000000
set_option maxHeartbeats 2000000
def tgG:G:=⟨3,[⟨0,1,1⟩,⟨0,2,1⟩,⟨1,2,1⟩]⟩
def tgR:R:=⟨3,[⟨0,1,1⟩,⟨0,2,1⟩,⟨1,2,1⟩],[[0,2],[1,4],[3,5]]⟩
theorem B4M:ribE tgR=0:=by decide+kernel
theorem B2t:ROk tgR:=B7Q B4M
theorem C4F:A0s tgG=0:=by decide+kernel
theorem C3r:endsL tgR.es=[(0,1),(0,2),(1,2)]:=by decide+kernel
theorem C3s {t:List Int} {es:List E} (he:endsL es=pkL (endsL tgR.es) t) (hl:t.length=2) (hc:checkG ⟨3,es⟩=0) (hb:connB ⟨3,es⟩=true):treeB 3 (endsL tgR.es) t=true:=by
 have h:=A3D (g:=⟨3,es⟩) (n:=3) hc rfl;rw [hb] at h;have h2:=of_decide_eq_true h.symm;unfold treeB;refine decide_eq_true ⟨by rw [hl]; rfl,?_⟩;rw [<-he]; exact h2
theorem B9w {T:List Nat} (hp:T.Pairwise (·< ·)) (hlt: ∀x,x∈T->x<3) (hb:treeB 3 (endsL tgR.es) (zI T)=true):T∈treesG tgR.g:=by
 have hlt2: ∀x,x∈T->x<(endsL tgR.es).length:=fun x hx=>by rw [C3r]; exact hlt x hx
 have h3:=(A6v (A4G B2t) (B0I B2t) hlt2).1 hb;exact A3s.2 ⟨hp,hlt2,h3.1,h3.2⟩
theorem C40:[0,1]∈treesG tgR.g:=B9w (by decide) (by decide) (C3s (es:=[⟨0,1,1⟩,⟨0,2,1⟩]) (by decide+kernel) rfl (by decide+kernel) (by decide+kernel))
theorem C41:[0,2]∈treesG tgR.g:=B9w (by decide) (by decide) (C3s (es:=[⟨0,1,1⟩,⟨1,2,1⟩]) (by decide+kernel) rfl (by decide+kernel) (by decide+kernel))
theorem C42:[1,2]∈treesG tgR.g:=B9w (by decide) (by decide) (C3s (es:=[⟨0,2,1⟩,⟨1,2,1⟩]) (by decide+kernel) rfl (by decide+kernel) (by decide+kernel))
theorem B4N:A5q tgR [0,1]=[0,1,0]:=by decide+kernel
theorem B4O:A5q tgR [0,2]=[0,0,1]:=by decide+kernel
theorem B9x:A5q tgR [1,2]=[1,0,0]:=by decide+kernel
theorem C3t:tourL tgR [0,1] (2*(endsL tgR.es).length)=[0,4,1,2,5,3]:=by decide+kernel
theorem C1G:zI [0,1]=[0,1]:=by decide
theorem C1H:zI [0,2]=[0,2]:=by decide
theorem C1I:zI [1,2]=[1,2]:=by decide
theorem B4P:B2w tgR [0,1]=0:=by
 have h:=B4L B4M C40;rw [C1G] at h; exact h
theorem C1J:B2w tgR [0,2]=0:=by
 have h:=B4L B4M C41;rw [C1H] at h; exact h
theorem B37:(treesG tgR.g).Perm [[0,1],[0,2],[1,2]]:=by
 have hnT:(treesG tgR.g).Nodup:=A8D (show A5i (pkN (endsL tgR.g.es) []) from A3W);refine (Vw hnT (by decide)).2 fun T=>⟨fun h=> ?_,fun h=> ?_⟩
 ·obtain ⟨h1,h2,h3,-⟩:=A3s.1 h;have e3:(endsL tgR.g.es).length=3:=by decide+kernel
  rw [e3] at h2
  match T,h1,h2,h3 with
  | [a,b],h1,h2,h3=>
   have hb:=h2 b (by simp);have hab:a<b:=by simpa using h1
   have:(a=0∧b=1)∨(a=0∧b=2)∨(a=1∧b=2):=by omega
   rcases this with ⟨rfl,rfl⟩ | ⟨rfl,rfl⟩ | ⟨rfl,rfl⟩<;>decide
  | [],_,_,h3=>cases h3
  | [a],_,_,h3=>cases h3
  | a::b::c::T,_,_,h3=>
   have e:tgR.g.n.toNat=3:=rfl;rw [e] at h3;simp at h3
 ·simp only [Qw,Qv,or_false] at h;rcases h with rfl | rfl | rfl
  ·exact C40
  ·exact C41
  ·exact C42
theorem B4Q:(treesG tgR.g).length=3:=by rw [B37.length_eq]; rfl
theorem C43:B6i tgG=tgR:=by
 have e:A1g (endsL tgG.es) tgG.n.toNat (2*(endsL tgG.es).length)=[[0,2],[1,4],[3,5]]:=by decide+kernel
 unfold B6i;rw [e]; rfl
theorem C44:sortLL (C4z tgG)=[[0,0,1],[0,1,0],[1,0,0]]:=by
 refine (A6n (by decide) ?_).symm;have e:C4z tgG=(treesG tgR.g).map fun T=>A5q tgR (zI T):=by unfold C4z tI; rw [VQ,C43]; rfl
 rw [e];refine (List.Perm.trans (B37.map _) ?_).symm;have e2:([[0,1],[0,2],[1,2]]:List (List Nat)).map (fun T=>A5q tgR (zI T))=[A5q tgR [0,1],A5q tgR [0,2],A5q tgR [1,2]]:=rfl;rw [e2,B4N,B4O,B9x];decide
theorem C45:B6a tgR.g [1,0,0]=true:=by decide+kernel
theorem C1K:trE tgR [1,0,0]=0:=by
 unfold trE;rw [if_neg (by rw [B4M]; simp),if_neg (by decide),if_pos C45]
theorem C46 {T:List Nat} (h:T∈treesG tgR.g):T=[0,1]∨T=[0,2]∨T=[1,2]:=by
 have:=B37.mem_iff.1 h;simpa using this
theorem C1L:trT tgR [1,0,0]=some [1,2]:=by
 have h:=C3q (r:=tgR) (q:=fun x=>decide (x=[1,0,0])) (T:=[1,2]) C42 (by rw [C1I]; exact decide_eq_true B9x) fun T' hT' h=>by
  have h1:=of_decide_eq_true h;rcases C46 hT' with rfl | rfl | rfl
  ·rw [C1G,B4N] at h1; exact absurd h1 (by decide)
  ·rw [C1H,B4O] at h1; exact absurd h1 (by decide)
  ·rfl
 rw [C1I] at h; exact h
theorem B0b:RSm tgR:=C4l (by decide)
def tgE:List E:=[⟨0,1,1⟩,⟨0,2,1⟩,⟨1,2,1⟩]
theorem C47:EsOk 3 tgE:=⟨fun e he=>by
 unfold tgE at he;simp only [Qw,Qv,or_false] at he
 rcases he with rfl | rfl | rfl<;>decide⟩
theorem C1M {d:List Int} (hd:d=[1,0,0]∨d=[0,1,0]∨d=[0,0,1]): ∃S,ACall Tryz.prog 73 [tG ⟨3,tgE⟩,A0m 0,A0n d] (.tup [A0n d,A0n S,A0m 0]):=by
 have hB: ∃B,BEnd tgE d 3 (A8E 3 0) B∧B.length=3∧A6o B 3=false:=by
  rcases hd with rfl | rfl | rfl
  ·exact ⟨_,.go (by decide+kernel) (.stop (by decide+kernel)),by decide+kernel,by decide+kernel⟩
  ·exact ⟨_,.go (by decide+kernel) (.go (by decide+kernel) (.stop (by decide+kernel))),by decide+kernel,by decide+kernel⟩
  ·exact ⟨_,.go (by decide+kernel) (.stop (by decide+kernel)),by decide+kernel,by decide+kernel⟩
 obtain ⟨B,b1,b2,b3⟩:=hB;have hv: ∀v,0≤d.getD v 0∧d.getD v 0≤1:=fun v=>by
  rcases hd with rfl | rfl | rfl
  all_goals
   match v with
   | 0=>decide
   | 1=>decide
   | 2=>decide
   | v+3=>exact ⟨by simp,by simp⟩
 have hl:d.length=3:=by rcases hd with rfl | rfl | rfl<;>rfl
 exact ⟨_,B6m 3 0 tgE d (by decide) (by decide) (by decide) hl (by decide) C47 (by decide+kernel) (by decide+kernel) (fun v=>by have:=hv v; omega) (fun v _ _=>(hv v).1) B b1 b2 b3⟩
theorem B0R {x:List Int} (hx:x=[1,0,0]∨x=[0,1,0]∨x=[0,0,1]):
  ACall Tryz.prog 74 [A0n x,.t (.rptr [.int .i64 3,.slice (A0f tgE),.slice (A0x [[0,2],[1,4],[3,5]])]),.t (.rptr [.slice (A0o [1,0,0])])] (A0v (decide (x=[1,0,0]))):=by
 obtain ⟨S,hR⟩:=C1M hx;have hE:=A87 x [1,0,0] (by rcases hx with rfl | rfl | rfl<;>decide) (by decide);generalize decide (x=[1,0,0])=b at*;generalize ([1,0,0]:List Int)=W at*;generalize tgE=es at*;generalize ([[0,2],[1,4],[3,5]]:List (List Int))=ar at*;refine ACall.of_body Tryz.func74 rfl (by kernel_rfl) ?_;simp only [entry,Tryz.ntmps74,A0n];refine zU ?_;refine zR Qw8 (zc hR (zc hE Qw8)) Qw8 ?_;simp [A0z,A0y,Blk.cells,ty,Tryz.results74,A0t,A0u,toT,A0d,A0b,A0c,A0a,A0v]
theorem C1o:ACall Tryz.prog 22 [tR tgR,A0n [0,1],A0n [1,-1,0]] (.tup [A0n [1,2],A0m 0]):=by
 have hg:=A8H tgR [0,1] B0b (by decide);rw [B4P] at hg;have hC:=A8F [1,-1,0] 3 (by decide);rw [show B0X [1,-1,0] 3=0 by decide] at hC
 have hD:=B6k [1,-1,0] 3 (by decide) (by decide) rfl (fun v=>by
  match v with
  | 0=>decide
  | 1=>decide
  | 2=>decide
  | v+3=>exact ⟨by simp,by simp⟩)
 rw [show A7t [1,-1,0] 3=0 by decide] at hD;have hAl:=B36 tgR.g (by decide) (by have:=B4Q; omega);rw [if_neg (by rw [show A0s tgR.g=0 from C4F]; simp),show A0s tgR.g=0 from C4F] at hAl;have hdv:=A2w tgR [0,1] B0b (B0L B4P).1 (by decide);change ACall _ _ _ (A0n (A5q tgR [0,1])) at hdv;rw [B4N] at hdv
 have hAd:=C4y [1,-1,0] [0,1,0] 3 (by decide) (by decide) rfl rfl (fun v=>by
  match v with
  | 0=>decide
  | 1=>decide
  | 2=>decide
  | v+3=>exact ⟨by simp,by simp⟩) (fun v=>by
  match v with
  | 0=>decide
  | 1=>decide
  | 2=>decide
  | v+3=>exact ⟨by simp,by simp⟩) (fun v hv=>by
  match v with
  | 0=>decide
  | 1=>decide
  | 2=>decide
  | v+3=>omega)
 rw [show B0Y [1,-1,0] [0,1,0] 3 3=[1,0,0] by decide] at hAd;obtain ⟨S,hW⟩:=C1M (d:=[1,0,0]) (.inl rfl)
 have hF:=B9i tgR B0b (tI (treesG tgR.g)) (by rw [B2n,B4Q]; decide) (fun u hu=>⟨(A2Z B2t hu).1,by have:=(A2Z B2t hu).2; have e:tgR.n.toNat=3:=rfl; omega⟩) 74 [.int .i64 3,.slice (A0f tgE),.slice (A0x [[0,2],[1,4],[3,5]])] [.slice (A0o [1,0,0])] (fun x=>decide (x=[1,0,0])) (fun u hu=>by
  obtain ⟨U,hU,rfl⟩:=Xq.1 hu;rcases C46 hU with rfl | rfl | rfl
  ·have e:A5q tgR (List.map (fun x:Nat=>(x:Int)) [0,1])=[0,1,0]:=B4N;rw [e]; exact B0R (.inr (.inl rfl))
  ·have e:A5q tgR (List.map (fun x:Nat=>(x:Int)) [0,2])=[0,0,1]:=B4O;rw [e]; exact B0R (.inr (.inr rfl))
  ·have e:A5q tgR (List.map (fun x:Nat=>(x:Int)) [1,2])=[1,0,0]:=B9x
   rw [e]; exact B0R (.inl rfl))
 have hT:=C1L;unfold trT at hT;rw [hT] at hF;have e1:B6e (some [1,2])=[1,2]:=rfl;have e2:B6f (some [1,2])=0:=rfl;rw [e1,e2] at hF;clear hT e1 e2;generalize tI (treesG tgR.g)=Ts at*;have q1:tR tgR=tR ⟨3,tgE,[[0,2],[1,4],[3,5]]⟩:=rfl;have q2:tG tgR.g=tG ⟨3,tgE⟩:=rfl;rw [q1] at hg hdv hF ⊢;rw [q2] at hAl;generalize tgE=es at*;generalize ([[0,2],[1,4],[3,5]]:List (List Int))=ar at*;generalize ([1,2]:List Int)=V at*;generalize ([1,-1,0]:List Int)=D at*;generalize ([1,0,0]:List Int)=W at*;generalize ([0,1,0]:List Int)=DD at*;generalize ([0,1]:List Int)=t at*;refine ACall.of_body Tryz.func22 rfl (by kernel_rfl) ?_;simp only [entry,Tryz.ntmps22,tR,A0n];refine zU ?_;refine zJ (stop 19) Qw8 (zc hg (zc hC (zc hD (zc hAl (zc hdv (zc hAd (zc hW Qw8))))))) Qw8 Qw8 ?_;refine AWp.freezeP 3 0 rfl rfl (ts:=[.int .i64 3,.slice (A0f es),.slice (A0x ar)]) rfl ?_;refine AWp.freezeP 15 1 rfl rfl (ts:=[.slice (A0o W)]) rfl ?_;simp only [List.set_cons_succ,List.set_cons_zero];refine zR Qw8 (zc hF Qw8) Qw8 ?_;simp [A0z,A0y,Blk.cells,ty,Tryz.results22,A0t,A0u,toT,A0d,A0b,A0c,A0a,A0m,A0n]
noncomputable def B9y (g:G):Bool:=A2e g 5 8&&(decide (A0s g≠0)||decide ((A8I g).length≤24))
theorem C1p (g:G) (hsm:A2e g 5 8=true->g.es.length≤40∧(checkG g=0->(endsL g.es).length≤8)):ACall Tryz.prog 18 [tG g] (A0v (B9y g)):=by
 have hF:=C3h g;unfold B9y;cases hb:A2e g 5 8 with
 | false=>
  rw [hb] at hF;rw [Qq3];clear hsm hb;obtain ⟨n,es⟩:=g;refine ACall.of_body Tryz.func18 rfl (by kernel_rfl) ?_;simp only [entry,Tryz.ntmps18,tG];refine zU ?_;refine zR Qw8 (zc hF Qw8) Qw8 ?_;simp [A0z,A0y,Blk.cells,ty,Tryz.results18,A0t,A0u,toT,A0d,A0b,A0c,A0a,A0v]
 | true=>
  rw [hb] at hF;rw [Jy];obtain ⟨h1,h2⟩:=hsm hb;have hJ:=A7i g h1;by_cases h0:A0s g=0
  ·obtain ⟨hc,-⟩:=A1w h0;have hA:=B8U g hc h1 (by have:=h2 hc; omega);rw [h0] at hJ ⊢;rw [decide_eq_false (by simp),JV];generalize A8I g=Ts at*;clear h2 hb h0;obtain ⟨n,es⟩:=g;by_cases hl:Ts.length≤24
   ·have hlI:(Ts.length:Int)≤24:=by omega
    rw [decide_eq_true hl];refine ACall.of_body Tryz.func18 rfl (by kernel_rfl) ?_;simp only [entry,Tryz.ntmps18,tG];refine zU ?_;refine zR (zc @hlI (zc @A0q Qw8)) (zc hF (zc hJ (zc hA Qw8))) Qw8 ?_;simp [A0z,A0y,Blk.cells,ty,Tryz.results18,A0t,A0u,toT,A0d,A0b,A0c,A0a,A0v]
   ·have hlI: ¬(Ts.length:Int)≤24:=by omega
    rw [decide_eq_false hl];refine ACall.of_body Tryz.func18 rfl (by kernel_rfl) ?_;simp only [entry,Tryz.ntmps18,tG];refine zU ?_;refine zR (zc @hlI (zc @A0q Qw8)) (zc hF (zc hJ (zc hA Qw8))) Qw8 ?_;simp [A0z,A0y,Blk.cells,ty,Tryz.results18,A0t,A0u,toT,A0d,A0b,A0c,A0a,A0v]
  ·rw [decide_eq_true h0,Bool.true_or];generalize A0s g=e at*;clear h2 hb;obtain ⟨n,es⟩:=g;refine ACall.of_body Tryz.func18 rfl (by kernel_rfl) ?_;simp only [entry,Tryz.ntmps18,tG];refine zU ?_;refine zR (zc @h0 Qw8) (zc hF (zc hJ Qw8)) Qw8 ?_;simp [A0z,A0y,Blk.cells,ty,Tryz.results18,A0t,A0u,toT,A0d,A0b,A0c,A0a,A0v]
theorem B0S:ACall Tryz.prog 50 [] (tR tgR):=by
 refine ACall.of_body Tryz.func50 rfl (by kernel_rfl) ?_;simp only [entry,Tryz.ntmps50];refine zU ?_;refine zRc Qw8 Qw8 Qw8 ?_;simp [A0z,A0y,Blk.cells,ty,Tryz.results50,A0t,A0u,toT,A0d,A0b,A0c,A0a,tR,tG,A0f,C0a,A0x,A0o,tgR]
theorem B6n:ACall Tryz.prog 11 [] (A0v true):=by
 have hT:=B0S;have c1:=B8T tgR [0,1] B0b (by decide);rw [if_neg (by rw [B4P]; simp),C3t,B4P] at c1;have c2:=B2o tgR [0,2] B0b (by decide);rw [if_neg (by rw [C1J]; simp),B4O,C1J] at c2;have c3:=C3p tgG (by decide) (fun _=>by have:=B4Q; show (treesG tgR.g).length≤16384; omega);rw [if_neg (by rw [C4F]; simp),C44,C4F] at c3;have c4:=B9r tgR [1,0,0] B0b (fun _=>by have:=B4Q; omega) (by decide) (fun _=>B2t);rw [if_neg (by rw [C1K]; simp),if_neg (by rw [C1K]; simp),C1L] at c4;have c5:=C1o;have s1:=B4a [0,4,1,2,5,3] [0,4,1,2,5,3] (by decide) (by decide);have s2:=A87 [0,0,1] [0,0,1] (by decide) (by decide);have s3:=B1V [[0,0,1],[0,1,0],[1,0,0]] [[0,0,1],[0,1,0],[1,0,0]] (by decide) (by decide) (by decide) (by decide);have s4:=B4a [1,2] [1,2] (by decide) (by decide);rw [decide_eq_true rfl] at s1 s2 s3 s4;have e4:B6f (some [1,2])=0:=rfl;have v4:B6e (some [1,2])=[1,2]:=rfl;rw [e4,v4] at c4;unfold tR at hT c1 c2 c4 c5;have hg:tG tgG=tG tgR.g:=rfl;rw [hg] at c3;unfold tG at c3;unfold A0N at c3 s3;have hk1:tgR.n=3:=rfl;have hk2:tgR.g.n=3:=rfl;have hk3:tgR.g.es=tgR.es:=rfl;rw [hk1] at hT c1 c2 c4 c5;rw [hk2,hk3] at c3;generalize tgR.es=es at hT c1 c2 c3 c4 c5;generalize tgR.ar=ar at hT c1 c2 c3 c4 c5;refine ACall.of_body Tryz.func11 rfl (by kernel_rfl) ?_;simp only [entry,Tryz.ntmps11];refine zU ?_
 repeat' (first|((first|(refine zT ?_;intro K' hK')|(refine zG ?_ ?_<;>(try refine zH ?_)<;>intro hguard<;>(try exact zX)<;>try intro K' hK'))<;>((try simp+contextual only [go_sem,chunks,List.range,List.range.loop]);(repeat' first|(with_reducible refine hK' _ _ ?_;clear hK' K')|((with_reducible first|refine zK hT ?_|refine zK c1 ?_|refine zK c2 ?_|refine zK c3 ?_|refine zK c4 ?_|refine zK c5 ?_|refine zK s1 ?_|refine zK s2 ?_|refine zK s3 ?_|refine zK s4 ?_);try simp+contextual only [go_sem,chunks,List.range,List.range.loop])|exact zY|with_reducible refine Qw7 ?_ ?_|(with_reducible intro hpath;try exact zP)|(refine hK' _ _ ?_;clear hK' K')|fail);try refine zS ?_))|(refine zE ?_;refine hK _ _ ?_;clear hK K)|(refine zN ?_;try refine zS ?_)|refine zA ?_|(refine zB ?_;intro K hK)|(refine zC ?_ ?_<;>(try refine zH ?_)<;>intro hcond<;>try exact zX)|fail)
 simp [A0z,A0y,Blk.cells,ty,Tryz.results11,A0t,A0u,toT,A0d,A0b,A0c,A0a,A0v]
end Go.Proofs.YtdbdfkohpjefjaaGreat
