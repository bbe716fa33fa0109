/- A part of the proof. -/
import Derived.Test.YtdbdfkohpjefjaaGreatPart21
import Derived.Test.YtdbdfkohpjefjaaGreatPart22
import Derived.Test.YtdbdfkohpjefjaaGreatPart23
set_option linter.all false
set_option maxHeartbeats 4000000
set_option maxRecDepth 100000
namespace Go.Proofs.YtdbdfkohpjefjaaGreat
open Go.Sp
def B9h (s:Nat->Nat) (T:List Nat) (x:Nat):Nat:=if x / 2∈T then s (oppH x) else s x
theorem B8t (s:Nat->Nat) {T:List Nat} {e:Nat} (he: ¬e∈T):B9h s (T++[e])=A1m (B9h s T) (2*e) (2*e+1):=by
 have e1:oppH (2*e)=2*e+1:=by unfold oppH; omega
 have e2:oppH (2*e+1)=2*e:=by unfold oppH; omega
 have d1:2*e / 2=e:=by omega
 have d2:(2*e+1) / 2=e:=by omega
 funext x;unfold A1m B9h;by_cases h1:x=2*e
 ·subst h1;rw [if_pos (by rw [d1]; simp),if_pos rfl,d2,if_neg he,e1]
 ·by_cases h2:x=2*e+1
  ·subst h2;rw [if_pos (by rw [d2]; simp),if_neg (by omega),if_pos rfl,d1,if_neg he,e2]
  ·rw [if_neg h1,if_neg h2];have h3:x / 2≠e:=by omega
   by_cases h4:x / 2∈T
   ·rw [if_pos (by simp [h4]),if_pos h4]
   ·rw [if_neg (by simp [h4,h3]),if_neg h4]
def pkN (L:List (Int×Int)) (T:List Nat):List (Int×Int):=T.map fun e=>L.getD e (0,0)
theorem B8u (L:List (Int×Int)) (T:List Nat):pkN L T=pkL L (T.map fun e:Nat=>(e:Int)):=by
 unfold pkN pkL;rw [JV];exact Wj fun e _=>rfl
section
variable {E n:Nat} {L:List (Int×Int)} {s g:Nat->Nat}
theorem Emb.set_tour (h:Emb E n L s g) (hb: ∀x y,x<2*E->y<2*E->(A3r s x y↔g x=g y)) {T:List Nat} (hn:T.Nodup) (hT: ∀e,e∈T->e<E) (ha:A57 (pkN L T)):
  ∀k,k≤T.length->PermN (2*E) (B9h s (T.take k))∧ ∀x y,x<2*E->y<2*E->(A3r (B9h s (T.take k)) x y↔Conn (pkN L (T.take k)) (g x) (g y))
 | 0,_=>by
  have e:B9h s (T.take 0)=s:=by funext x; simp [B9h]
  rw [e];refine ⟨h.perm,fun x y hx hy=> ?_⟩;rw [hb x y hx hy];show _↔Conn [] _ _;exact B1P.symm
 | k+1,hk=>by
  obtain ⟨ih1,ih2⟩:=h.set_tour hb hn hT ha k (by omega);have hkl:k<T.length:=by omega
  have hel:=hT _ (Xw hkl);have htk:T.take (k+1)=T.take k++[T[k]]:=XQ hkl;have hne: ¬T[k]∈T.take k:=fun hm=>by
   obtain ⟨j,hj,e⟩:=List.getElem_of_mem hm;rw [WX] at hj;rw [List.getElem_take] at e;exact YQ.1 hn j k (by omega) hkl (by omega) e
  have hLe:=h.ends T[k] hel;have hpk:pkN L (T.take (k+1))=pkN L (T.take k)++[(((g (2*T[k]):Nat):Int),((g (2*T[k]+1):Nat):Int))]:=by
   rw [htk]; unfold pkN;rw [WW];simp only [Xy,XV];rw [Qz,hLe]; rfl
  have hnc: ¬Conn (pkN L (T.take k)) (g (2*T[k])) (g (2*T[k]+1)):=by
   have hg:(pkN L T)[k]? =some (((g (2*T[k]):Nat):Int),((g (2*T[k]+1):Nat):Int)):=by
    unfold pkN;rw [QY,Qq hkl];simp only [Option.map_some];rw [Qz,hLe]; rfl
   have:=ha k _ hg;have e:(pkN L T).take k=pkN L (T.take k):=by unfold pkN; rw [List.map_take]
   rw [e] at this;simpa using this
  rw [hpk,htk,B8t s hne];generalize T[k]=e at*;have hnb: ¬A3r (B9h s (T.take k)) (2*e) (2*e+1):=fun hc=>hnc ((ih2 _ _ (by omega) (by omega)).1 hc);refine ⟨A8n ih1 (by omega) (by omega),fun x y hx hy=> ?_⟩;rw [B6U ih1 (by omega) (by omega) hnb x y hx hy,A45,ih2 x y hx hy,ih2 _ x (by omega) hx,ih2 _ x (by omega) hx,ih2 _ y (by omega) hy,ih2 _ y (by omega) hy]
end
theorem B8v (r:R) (hs:RSm r) (hr:ROk r) (h:Nat) (hh:h<2*(endsL r.es).length):ACall Tryz.prog 102 [tR r,A0k h] (A0k (nextR (endsL r.es) r.ar h)):=by
 obtain ⟨l,q1,q2,q3,q4⟩:=hr.row hh;have hA:ACall Tryz.prog 40 [tG r.g,A0k h] (A0k (atL (endsL r.es) h)):=B06 r.g hs.es hr.c h hh;have hat:=A1y hr.c hh;have hlen:=hr.len;have hll:=hs.l l (Qy q1);have hnx:nextR (endsL r.es) r.ar h=A5X l (h:Int):=by unfold nextR; rw [q2]
 rw [hnx];obtain ⟨v,hv⟩: ∃v:Nat,atL (endsL r.es) h=v:=⟨(atL (endsL r.es) h).toNat,by omega⟩;rw [hv] at hA q1 hat;rw [Int.toNat_natCast] at q1;have e1:=A0V q1;have hvl:(v:Int)<r.ar.length:=by omega
 have hnd:=q3.nd;clear hv hnx q2 q3 hr hs;obtain ⟨n,es,ar⟩:=r;simp only [R.g] at hA e1 hvl ⊢;refine ACall.of_body Tryz.func102 rfl (by kernel_rfl) ?_;simp only [entry,Tryz.ntmps102,tR,A0k];refine zU ?_;refine zR (zc @A0q (zc @e1 (zc @hvl Qw6))) (zc hA Qw6) Qw6 ?_;refine AWp.loopS (α:=Nat) 35 (fun i=>[(1,.c (.int .i64 (h:Int))),(5,.c (.slice (A0o l) .none)),(6,.c (.int .i64 (i:Int)))]) (fun i=>[]) (fun i=>i≤l.idxOf (h:Int)) (fun i=>l.length-i) (0) (hk:=A0r.headL 0 35 [1,5,6] zW) (h0:=?_) (round:=fun i hI=>?_)
 ·exact Xj _
 ·have hi:i≤l.idxOf (h:Int):=hI;clear hI;obtain ⟨p1,p2⟩:=A21 q4;have hltI:(i:Int)<l.length:=by omega
  have f0:=Qq (show i<l.length by omega);have f1:=A0t f0;by_cases e:l[i]'(by omega)=(h:Int)
  ·have hidx:=B7O hnd (f0.trans (by rw [e]));have hml:(i+1)%l.length<l.length:=Vy _ (by omega);have hmlI:(((i+1)%l.length:Nat):Int)<l.length:=by omega
   have k0:=Qq hml;have k1:=A0t k0;have hnv:A5X l (h:Int)=l[(i+1)%l.length]:=by
    unfold A5X; rw [hidx,Qz,k0]; rfl
   rw [hnv];have htm:=C3A i l.length;rw [e] at f1;generalize l[(i+1)%l.length]=y at*;generalize (i+1)%l.length=q at*;refine zR (zc @hltI (zc @A0d (zc @f1 (zc @k1 (zc @htm (zc @hmlI Qw6)))))) Qw6 Qw6 ?_;simp [A0y,A0x,Blk.cells,ty,Tryz.results102,A0s,A0u,toT,A0e,A0b,A0c,A0a,A0k]
  ·have hne:i≠l.idxOf (h:Int):=fun e2=>by
    apply e;have:=(Qx.1 p2).2;rw [<-this]; congr 1
   generalize l[i]'(by omega)=x at*;refine zR (zc @hltI (zc @A0d (zc @f1 (zc @e Qw6)))) Qw6 Qw6 ?_;refine ⟨i+1,A0r.headN 0 35 [1,5,6] zW,?_,?_⟩
   ·omega
   ·omega
def A3X (g:G) (a b:Int):Bool:=decide (g.es.length≤40)&&(decide (checkG g≠0)||(decide (g.n≤a)&&decide (((endsL g.es).length:Int)≤b)))
theorem C0B (g:G) (a b:Int):ACall Tryz.prog 97 [tG g,A0k a,A0k b] (A01 (A3X g a b)):=by
 refine ACall.of_body Tryz.func97 rfl (by kernel_rfl) ?_;simp only [entry,Tryz.ntmps97,tG,A0k];refine zU ?_;by_cases hl:g.es.length≤40
 ·by_cases hc:checkG g=0
  ·have hs:=B5i (g:=g) (by omega) hc;have e:A3X g a b=(decide (g.n≤a)&&decide (((endsL g.es).length:Int)≤b)):=by unfold A3X; rw [decide_eq_true hl,hc,VV,show decide ((0:Int)≠0)=false by decide,Qq3]
   rw [e];by_cases hn:g.n≤a
   ·rw [decide_eq_true hn,VV]
    repeat' (first|((first|(refine zT ?_;intro K' hK')|(refine zG ?_ ?_<;>(try refine zH ?_)<;>intro hguard<;>(try exact zX)<;>try intro K' hK'))<;>((try simp+contextual only [go_sem,A00,hc,hn]);(repeat' first|(with_reducible refine hK' _ _ ?_;clear hK' K')|((with_reducible first|refine zL (c:=A5Q g (by omega)) (q:=?_)|refine zK (A72 g hs.s hs.es hs.m) ?_);try simp+contextual only [go_sem,A00,hc,hn])|exact zY|with_reducible refine Qw5 ?_ ?_|(with_reducible intro hpath;try exact zP)|(refine hK' _ _ ?_;clear hK' K')|fail);try refine zS ?_))|(refine zE ?_;refine hK _ _ ?_;clear hK K)|(refine zN ?_;try refine zS ?_)|refine zA ?_|(refine zB ?_;intro K hK)|(refine zC ?_ ?_<;>(try refine zH ?_)<;>intro hcond<;>try exact zX)|fail)
    simp [A0y,A0x,Blk.cells,ty,Tryz.results97,A0s,A0u,toT,A0e,A0b,A0c,A0a,A01]
   ·rw [decide_eq_false hn,Qz2]
    repeat' (first|((first|(refine zT ?_;intro K' hK')|(refine zG ?_ ?_<;>(try refine zH ?_)<;>intro hguard<;>(try exact zX)<;>try intro K' hK'))<;>((try simp+contextual only [go_sem,A00,hc,hn]);(repeat' first|(with_reducible refine hK' _ _ ?_;clear hK' K')|((with_reducible first|refine zL (c:=A5Q g (by omega)) (q:=?_)|refine zK (A72 g hs.s hs.es hs.m) ?_);try simp+contextual only [go_sem,A00,hc,hn])|exact zY|with_reducible refine Qw5 ?_ ?_|(with_reducible intro hpath;try exact zP)|(refine hK' _ _ ?_;clear hK' K')|fail);try refine zS ?_))|(refine zE ?_;refine hK _ _ ?_;clear hK K)|(refine zN ?_;try refine zS ?_)|refine zA ?_|(refine zB ?_;intro K hK)|(refine zC ?_ ?_<;>(try refine zH ?_)<;>intro hcond<;>try exact zX)|fail)
    simp [A0y,A0x,Blk.cells,ty,Tryz.results97,A0s,A0u,toT,A0e,A0b,A0c,A0a,A01]
  ·
   repeat' (first|((first|(refine zT ?_;intro K' hK')|(refine zG ?_ ?_<;>(try refine zH ?_)<;>intro hguard<;>(try exact zX)<;>try intro K' hK'))<;>((try simp+contextual only [go_sem,A00]);(repeat' first|(with_reducible refine hK' _ _ ?_;clear hK' K')|(with_reducible refine zL (c:=A5Q g (by omega)) (q:=?_);try simp+contextual only [go_sem,A00])|exact zY|with_reducible refine Qw5 ?_ ?_|(with_reducible intro hpath;try exact zP)|(refine hK' _ _ ?_;clear hK' K')|fail);try refine zS ?_))|(refine zE ?_;refine hK _ _ ?_;clear hK K)|(refine zN ?_;try refine zS ?_)|refine zA ?_|(refine zB ?_;intro K hK)|(refine zC ?_ ?_<;>(try refine zH ?_)<;>intro hcond<;>try exact zX)|fail)
   have e:A3X g a b=true:=by unfold A3X; rw [decide_eq_true hl,decide_eq_true (show checkG g≠0 from hc)]; rfl
   simp [A0y,A0x,Blk.cells,ty,Tryz.results97,A0s,A0u,toT,A0e,A0b,A0c,A0a,A01,e]
 ·
  refine zR (zc @A00 Qw6) Qw6 Qw6 ?_;have e:A3X g a b=false:=by unfold A3X; rw [decide_eq_false hl]; rfl
  simp [A0y,A0x,Blk.cells,ty,Tryz.results97,A0s,A0u,toT,A0e,A0b,A0c,A0a,A01,e]
theorem C2v (g:G):ACall Tryz.prog 49 [tG g] (A01 (A3X g 6 9)):=by
 have h:=C0B g 6 9;generalize A3X g 6 9=b at*;obtain ⟨n,es⟩:=g;refine ACall.of_body Tryz.func49 rfl (by kernel_rfl) ?_;simp only [entry,Tryz.ntmps49,tG];refine zU ?_;refine zR Qw6 (zc h Qw6) Qw6 ?_;simp [A0y,A0x,Blk.cells,ty,Tryz.results49,A0s,A0u,toT,A0e,A0b,A0c,A0a,A01]
def C3M (r:R):Bool:=A3X r.g 6 9&&(decide (r.ar.length≤20)&&r.ar.all fun l=>decide (l.length≤40))
theorem C2w (r:R):ACall Tryz.prog 10 [tR r] (A01 (C3M r)):=by
 have hG:=C2v r.g;unfold C3M;obtain ⟨n,es,ar⟩:=r;simp only [R.g] at hG ⊢;generalize A3X ⟨n,es⟩ 6 9=b at*;refine ACall.of_body Tryz.func10 rfl (by kernel_rfl) ?_;simp only [entry,Tryz.ntmps10,tR];refine zU ?_;cases b with
 | false=>
  rw [Qz2];refine zR Qw6 (zc hG Qw6) Qw6 ?_;simp [A0y,A0x,Blk.cells,ty,Tryz.results10,A0s,A0u,toT,A0e,A0b,A0c,A0a,A01]
 | true=>
  rw [VV];by_cases hl:ar.length≤20
  case neg=>
   have hlI:20<(ar.length:Int):=by omega
   rw [decide_eq_false hl,Qz2];refine zR (zc @A0q (zc @hlI Qw6)) (zc hG Qw6) Qw6 ?_;simp [A0y,A0x,Blk.cells,ty,Tryz.results10,A0s,A0u,toT,A0e,A0b,A0c,A0a,A01]
  have hlI: ¬(20<(ar.length:Int)):=by omega
  rw [decide_eq_true hl,VV];refine zR (zc @A0q (zc @hlI Qw6)) (zc hG Qw6) Qw6 ?_;refine AWp.loopS (α:=Nat) 28 (fun i=>[(1,.c (.ptr 0 0)),(3,.c (.int .i64 (i:Int)))]) (fun i=>[.box [.int .i64 n,.slice (A0f es) .none,.slice (A07 ar) .none]]) (fun i=>i≤ar.length∧ ∀k l,k<i->ar[k]? =some l->l.length≤40) (fun i=>ar.length-i) (0) (hk:=A0r.headL 1 28 [1,3] zW) (h0:=?_) (round:=fun i hI=>?_)
  ·exact ⟨Xj _,fun k l hk=>absurd hk (Nat.not_lt_zero _)⟩
  ·obtain ⟨hi,hI2⟩:=hI;by_cases hlt:i<ar.length
   ·have hltI:(i:Int)<ar.length:=by omega
    have e0:=Qq hlt;have e1:=A0V e0;generalize hx:ar[i]=l at*;by_cases hll:l.length≤40
    ·have hllI: ¬(40<(l.length:Int)):=by omega
     refine zR (zc @hltI (zc @A0q (zc @A0d (zc @e1 (zc @hllI Qw6))))) Qw6 Qw6 ?_;refine ⟨i+1,A0r.headN 1 28 [1,3] zW,?_,?_⟩
     ·refine ⟨hlt,fun k m hk hm=> ?_⟩;by_cases e:k=i
      ·subst e; rw [e0] at hm; cases hm; exact hll
      ·exact hI2 k m (by omega) hm
     ·omega
    ·have hllI:40<(l.length:Int):=by omega
     have e:(ar.all fun l=>decide (l.length≤40))=false:=by
      rw [<-Qq1,Zw];intro h;have:=h l (Qy e0);exact hll (by simpa using this)
     rw [e];refine zR (zc @hltI (zc @A0q (zc @A0d (zc @e1 (zc @hllI Qw6))))) Qw6 Qw6 ?_;simp [A0y,A0x,Blk.cells,ty,Tryz.results10,A0s,A0u,toT,A0e,A0b,A0c,A0a,A01]
   ·have e:(ar.all fun l=>decide (l.length≤40))=true:=by
     rw [Zw];intro l hl2;obtain ⟨k,hk,rfl⟩:=Ww.1 hl2;exact decide_eq_true (hI2 k _ (by omega) (Qq hk))
    rw [e];have hnl: ¬((i:Int)<ar.length):=by omega
    refine zR (zc @hnl (zc @A0q Qw6)) Qw6 Qw6 ?_;simp [A0y,A0x,Blk.cells,ty,Tryz.results10,A0s,A0u,toT,A0e,A0b,A0c,A0a,A01]
theorem C1o {r:R} (h:C3M r=true):RSm r:=by
 unfold C3M A3X at h;simp only [Zj,decide_eq_true_eq,Zw] at h;exact ⟨h.1.1,by omega,fun l hl=>by have:=h.2.2 l hl; omega⟩
def mB (l:List Nat):List (MKey×MV):=l.map fun x:Nat=>(.int (x:Int),.c (.bool true))
theorem B8w: ∀(l:List Nat) (x:Nat),x∉l->mIdx (mB l) (.int x)=none
 | [],x,_=>rfl
 | y::l,x,h=>by
  have h1: ¬y=x:=fun e=>h (by simp [e]);have h2:=B8w l x (fun hm=>h (by simp [hm]));unfold mIdx at h2 ⊢;unfold mB at h2 ⊢;simp only [Xy,Jv,h2,Option.map_none];rw [if_neg];intro e;have:(MKey.int (y:Int))= .int x:=by simpa using e
  injection this with e;exact h1 (by omega)
theorem C3N {l:List Nat} {x:Nat} (h:x∉l) (z:MV):A62 (mB l) (.int x) z=z:=by
 unfold A62; rw [B8w l x h]; rfl
theorem C3O {l:List Nat} {x:Nat} (h:x∉l):B2z (mB l) (.int x) (.c (.bool true))=mB (l++[x]):=by
 unfold B2z; rw [B8w l x h]; simp [mB]
theorem C2x {l:List Nat}: ∀e,e∈mB l->KShape.ok .int e.1=true:=fun e h=>by
 obtain ⟨x,_,rfl⟩:=Xq.1 h;rfl
theorem A8J (h:Nat) (hh:h<2^40):ACall Tryz.prog 41 [A0k h] (A0k (oppH h:Nat)):=by
 have e:((oppH h:Nat):Int)=(h:Int)+1-2*((h%2:Nat):Int):=by unfold oppH; omega
 rw [e];refine ACall.of_body Tryz.func41 rfl (by kernel_rfl) ?_;simp only [entry,Tryz.ntmps41,A0k];refine zU ?_;have hm:h%2=0∨h%2=1:=by omega
 rcases hm with hm | hm
 ·
  refine zR (zc @B5p (zc @hm Qw6)) Qw6 Qw6 ?_;simp [A0y,A0x,Blk.cells,ty,Tryz.results41,A0s,A0u,toT,A0e,A0b,A0c,A0a,A0k,hm]
 ·
  refine zR (zc @B5p (zc @hm Qw6)) Qw6 Qw6 ?_;simp [A0y,A0x,Blk.cells,ty,Tryz.results41,A0s,A0u,toT,A0e,A0b,A0c,A0a,A0k,hm]
theorem C2y {g:G} (hl:g.es.length≤40) (hj:A0w g=0):RSm ⟨g.n,g.es,A1h (endsL g.es) g.n.toNat (2*(endsL g.es).length)⟩:=by
 have hc:checkG g=0:=by
  unfold A0w at hj;by_cases h:checkG g=0
  ·exact h
  ·rw [if_pos h] at hj; exact absurd hj h
 have h12:=(A0j.1 hc).1;have hlen:=A1t hl hc;refine ⟨hl,by simp only [A0G]; omega,fun l hm=> ?_⟩;obtain ⟨v,_,rfl⟩:=Xq.1 hm;have:=A76 (endsL g.es) (v:Int) (2*(endsL g.es).length);omega
end Go.Proofs.YtdbdfkohpjefjaaGreat
