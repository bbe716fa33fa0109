/- A part of the proof. -/
import Derived.Test.YtdbdfkohpjefjaaGreatPart24
import Derived.Test.YtdbdfkohpjefjaaGreatPart26
set_option linter.all false
set_option maxHeartbeats 4000000
set_option maxRecDepth 100000
namespace Go.Proofs.YtdbdfkohpjefjaaGreat
open Go.Sp
theorem C2z (L:List (Int×Int)) (T:List Nat):(pkN L T).length=T.length:=by simp [pkN]
theorem B3t (L:List (Int×Int)) (A B:List Nat):pkN L (A++B)=pkN L A++pkN L B:=by simp [pkN]
theorem B8x {n:Nat} {L:List (Int×Int)} {T:List Nat} (hL:InN n L) (ht: ∀x,x∈T->x<L.length):InN n (pkN L T):=fun p hp=>by
 obtain ⟨x,hx,rfl⟩:=Xq.1 hp;rw [Qz,Qq (ht x hx)];exact hL _ (Xw _)
open Classical in
noncomputable def A1I (n:Nat) (L:List (Int×Int)):Nat->List Nat->Nat->List (List Nat)
 | 0,t,_=>if t.length+1=n then [t] else []
 | k+1,t,e=>if t.length+1=n then [t] else (if A57 (pkN L (t++[e])) then A1I n L k (t++[e]) (e+1) else [])++A1I n L k t (e+1)
theorem A6n {n:Nat} {L:List (Int×Int)}: ∀{k:Nat} {t:List Nat} {e:Nat} {T:List Nat},A57 (pkN L t)->
  (T∈A1I n L k t e↔ ∃s,T=t++s∧s.Pairwise (·< ·)∧(∀x,x∈s->e≤x∧x<e+k)∧T.length+1=n∧A57 (pkN L T)):=by
 intro k
 induction k with
 | zero=>
  intro t e T ha;unfold A1I;constructor
  ·intro h;split at h
   ·rename_i hl;rw [Zz] at h;subst h;exact ⟨[],by simp,.nil,by simp,hl,ha⟩
   ·cases h
  ·rintro ⟨s,rfl,_,h2,h3,_⟩;have:s=[]:=by
    cases s with
    | nil=>rfl
    | cons x s=>have:=h2 x (by simp); omega
   subst this;rw [WY] at h3 ⊢;rw [if_pos h3]; simp
 | succ k ih=>
  intro t e T ha;unfold A1I;by_cases hl:t.length+1=n
  ·rw [if_pos hl,Zz];constructor
   ·rintro rfl;exact ⟨[],by simp,.nil,by simp,hl,ha⟩
   ·rintro ⟨s,rfl,_,_,h3,_⟩;have:s.length=0:=by rw [Xv] at h3; omega
    rw [ZV.1 this,WY]
  ·rw [if_neg hl,XW,ih ha];constructor
   ·rintro (h | ⟨s,h1,h2,h3,h4,h5⟩)
    ·split at h
     ·rename_i hc;obtain ⟨s,h1,h2,h3,h4,h5⟩:=(ih hc).1 h;refine ⟨e::s,by rw [h1]; simp,YV.2 ⟨fun x hx=>by have:=(h3 x hx).1; omega,h2⟩,fun x hx=> ?_,h4,h5⟩;rcases Qw.1 hx with rfl | hx
      ·omega
      ·have:=h3 x hx; omega
     ·cases h
    ·exact ⟨s,h1,h2,fun x hx=>by have:=h3 x hx; omega,h4,h5⟩
   ·rintro ⟨s,rfl,h2,h3,h4,h5⟩;cases s with
    | nil=>exact absurd (by simpa using h4) hl
    | cons x s=>
     by_cases hx:x=e
     ·subst hx;left;have hc:A57 (pkN L (t++[x])):=by
       rw [show t++x::s=(t++[x])++s by simp,B3t] at h5;exact B4o h5
      rw [if_pos hc];refine (ih hc).2 ⟨s,by simp,(YV.1 h2).2,fun y hy=> ?_,h4,h5⟩;have:=(YV.1 h2).1 y hy;have:=h3 y (by simp [hy]);omega
     ·right;refine ⟨x::s,rfl,h2,fun y hy=> ?_,h4,h5⟩;have h6:=h3 x (by simp);have h7:=h3 y hy;rcases Qw.1 hy with rfl | hy
      ·omega
      ·have:=(YV.1 h2).1 y hy; omega
theorem B3u {n:Nat} {L:List (Int×Int)}: ∀{k:Nat} {t:List Nat} {e:Nat},A57 (pkN L t)->(A1I n L k t e).Nodup:=by
 intro k
 induction k with
 | zero=>intro t e _; unfold A1I; split<;>simp
 | succ k ih=>
  intro t e ha;unfold A1I;split
  ·simp
  ·refine JW.2 ⟨?_,ih ha,fun A hA B hB=> ?_⟩
   ·split
    ·rename_i hc; exact ih hc
    ·simp
   ·rintro rfl;split at hA
    ·rename_i hc;obtain ⟨s,h1,_⟩:=(A6n hc).1 hA;obtain ⟨s',h2,_,h3,_⟩:=(A6n ha).1 hB;rw [h1,Zv] at h2;have h4:=List.append_cancel_left h2;have:=h3 e (by rw [<-h4]; simp);omega
    ·cases hA
theorem B5K {n:Nat} {R:Nat->Nat->Prop} (h0:0<n) (h: ∀x y,x<n->y<n->R x y):ncls n R=1:=by
 rw [A25 (S:=fun x y=>(fun _:Nat=>0) x=(fun _:Nat=>0) y) fun x y hx hy=>⟨fun _=>rfl,fun _=>h x y hx hy⟩];exact A8E _ (fun x _=>by omega) fun v hv=>⟨0,h0,by omega⟩
theorem B8y {n:Nat} {L:List (Int×Int)} (h0:0<n) (hL:InN n L) {k:Nat} {t:List Nat} {e:Nat} (ha:A57 (pkN L t)) (ht: ∀x,x∈t->x<L.length) (he:e+k=L.length)
  (hn:ncls n (Conn (pkN L t++L.drop e))≠1):A1I n L k t e=[]:=by
 refine List.eq_nil_iff_forall_not_mem.2 fun T hT=>hn ?_;obtain ⟨s,rfl,h2,h3,h4,h5⟩:=(A6n ha).1 hT;have hin: ∀x,x∈t++s->x<L.length:=fun x hx=>by
  rcases XW.1 hx with hx | hx
  ·exact ht x hx
  ·have:=h3 x hx; omega
 have h6:=(A6l (n:=n) (pkN L (t++s)) (B8x hL hin)).2.1 h5;rw [C2z] at h6;have h7:ncls n (Conn (pkN L (t++s)))=1:=by omega
 refine B5K h0 fun x y hx hy=> ?_;refine B07 (l:=pkN L (t++s)) (fun u w hu=> .inl ?_) (A79 (A6j n _) h7 hx hy);rw [B3t] at hu;rcases XW.1 hu with hu | hu
 ·exact Qw2 _ hu
 ·refine List.mem_append_right _ ?_;obtain ⟨i,hi,hp⟩:=Xq.1 hu;have hb:=h3 i hi;rw [Qz,Qq (show i<L.length by omega),Option.getD_some] at hp;rw [<-hp];refine ZW.2 ⟨i-e,?_⟩;rw [Yy,show e+(i-e)=i by omega];exact Qq _
def cntF (n:Nat) (F:List Nat):Nat:=((List.range n).filter fun v=>decide (F[v]? =some v)).length
structure TD (n:Nat) (M:List (Int×Int)) (F:List Nat) (rt dp:Nat->Nat):Prop where
 tc:TC M F rt dp
 lt: ∀v,v<n->rt v<n
 cnt:cntF n F=ncls n (Conn M)
def TDe (n:Nat) (M:List (Int×Int)) (F:List Nat):Prop:= ∃rt dp,TD n M F rt dp
theorem C20 {n:Nat} {M:List (Int×Int)} (hM:InN n M) {u w:Nat} (h:Conn M u w) (hu:u<n):w<n:=by
 induction h with
 | refl=>exact hu
 | step _ hs _=>
  rcases hs with hs | hs
  ·have:=(hM _ hs).2.2; simp only at this; omega
  ·have:=(hM _ hs).1.2; simp only at this; omega
theorem TD.of {n:Nat} {M:List (Int×Int)} {F:List Nat} {rt dp:Nat->Nat} (tc:TC M F rt dp) (hn:n≤12) (hM:InN n M) (hc:cntF n F=ncls n (Conn M)):TD n M F rt dp:=
 ⟨tc,fun v hv=>C20 hM ((tc.conn v (rt v) (by omega) (tc.tf.rlt v (by omega))).1 (tc.tf.idem (by omega)).symm) hv,hc⟩
theorem TDe.of {n:Nat} {M:List (Int×Int)} {F:List Nat} (tc:TCe M F) (hn:n≤12) (hM:InN n M) (hc:cntF n F=ncls n (Conn M)):TDe n M F:=by
 obtain ⟨rt,dp,tc⟩:=tc;exact ⟨rt,dp,TD.of tc hn hM hc⟩
theorem TDe.zero (n:Nat) (hn:n≤12):TDe n [] (List.range 12):=by
 refine TDe.of TCe.zero hn (fun p hp=>by simp at hp) ?_;rw [A3P];unfold cntF
 rw [List.filter_eq_self.2 (fun v hv=>by
  have:v<12:=by have:=XJ.1 hv; omega
  simp [this]),VQ]
theorem TD.snoc {n:Nat} {M:List (Int×Int)} {F:List Nat} {rt dp:Nat->Nat} (h:TD n M F rt dp) {a b:Nat} (hn:n≤12) (hM:InN n M) (ha:a<n) (hb:b<n):
  TDe n (M++[((a:Int),(b:Int))]) (F.set (rt a) (rt b)):=by
 refine TDe.of (h.tc.snoc (by omega) (by omega)) hn (fun p hp=> ?_) ?_
 ·rcases XW.1 hp with hp | hp
  ·exact hM p hp
  ·rw [Zz] at hp; subst hp; simp only; omega
 ·have hcn:=h.tc.conn a b (by omega) (by omega);by_cases e:rt a=rt b
  ·rw [h.tc.tf.stay (by omega) e,A3n (hcn.1 e)];exact h.cnt
  ·have h1:=A22 (n:=n) ha hb (fun h=>e (hcn.2 h));have hfa:=h.tc.tf.fix a (by omega);have hla:=h.lt a ha
   have h2:=A7c (l:=List.range n) (p:=fun v=>decide (F[v]? =some v)) (q:=fun v=>decide ((F.set (rt a) (rt b))[v]? =some v)) (m:=rt a) Qq9 (XJ.2 hla) (by simp [hfa]) (fun x hx=>by
    by_cases hxa:x=rt a
    ·subst hxa;rw [QW (by rw [h.tc.tf.len]; omega)];simp [Ne.symm e]
    ·rw [QX (Ne.symm hxa)]
     simp [hxa])
   have h3:=h.cnt;unfold cntF at h3 ⊢;omega
end Go.Proofs.YtdbdfkohpjefjaaGreat
namespace Go.Proofs.YtdbdfkohpjefjaaGreat
open Go.Sp
theorem C0C {F:List Nat} {i:Nat}:cntF (i+1) F=cntF i F+(if F[i]? =some i then 1 else 0):=by
 unfold cntF;rw [WZ,VW,Xv];by_cases h:F[i]? =some i
 ·rw [if_pos h]; simp [h]
 ·rw [if_neg h]; simp [h]
theorem cnt_le (F:List Nat) (i:Nat):cntF i F≤i:=Yj (WV _ _) (by simp)
theorem C21 (n:Nat) (R:Nat->Nat->Prop):ncls n R≤n:=Yj (WV _ _) (by simp)
theorem B3v (n:Nat) (hn:n≤12) (M L:List (Int×Int)) (F:List Nat) (hF:TDe n M F) (hM:InN n M) (hL:InN n L) (hl:L.length<2^40):
  ACall Tryz.prog 128 [A0k n,tF F,A0C L] (A01 (decide (ncls n (Conn (M++L))=1))):=by
 obtain ⟨rt,dp,td⟩:=hF;have hlen:=td.tc.tf.len;have hof:(fT F).map A04=fC F:=B50 F;refine ACall.of_body Tryz.func128 rfl (by kernel_rfl) ?_;simp only [entry,Tryz.ntmps128,A0k,A0C,tF];refine zU ?_;refine zR (zc @hof Qw6) Qw6 Qw6 ?_;refine AWp.loopS (α:=Nat) 35 (fun i=>[(2,.c (.slice (A1b L) .none)),(4,.c (.ptr 0 0)),(7,.c (.int .i64 (cntF i F:Nat))),(11,.c (.int .i64 (n:Int))),(12,.c (.int .i64 (i:Int)))]) (fun i=>[.box (fC F)]) (fun i=>i≤n) (fun i=>n-i) (0) (hk:=A0r.headL 1 35 [2,4,7,11,12] (zV @A0Y)) (h0:=?_) (round:=fun i hI=>?_)
 ·exact Xj _
 ·by_cases hlt:i<n
  ·have hltI:(i:Int)<n:=by omega
   have hR:=A6O td.tc.tf i (by omega) (H:=[.box (fC F)]) (id:=0) rfl;have hs:=C0C (F:=F) (i:=i);have hcl:=cnt_le F i;by_cases e:rt i=i
   ·have hfx:=td.tc.tf.fix i (by omega);rw [e] at hfx hR;rw [if_pos hfx] at hs;refine zJ Qw6 (zc @hltI Qw6) Qw6 (zc hR Qw6) Qw6 ?_;refine ⟨i+1,A0r.headF 1 35 [2,4,7,11,12] (zc @hs Qw6) (zV @A0Y),?_,?_⟩
    ·exact hlt
    ·omega
   ·have hfx: ¬F[i]? =some i:=fun h=>by
     have hil:i<F.length:=by omega
     rw [Qq hil] at h;exact e (td.tc.tf.self i hil (by simpa using h))
    rw [if_neg hfx,Nat.add_zero] at hs;have eI: ¬((rt i:Nat):Int)=i:=by omega
    refine zJ Qw6 (zc @hltI (zc @eI Qw6)) Qw6 (zc hR Qw6) Qw6 ?_;refine ⟨i+1,A0r.headN 1 35 [2,4,7,11,12] (zV @A0Y),?_,?_⟩
    ·exact hlt
    ·omega
  ·have ei:i=n:=by omega
   subst ei;have hnl: ¬((i:Int)<i):=by omega
   rw [td.cnt];refine zR (zc @hnl (zc @A02 Qw6)) Qw6 Qw6 ?_;refine AWp.loopS (α:=(Nat×List Nat)) 35 (fun s=>[(4,.c (.ptr 0 0)),(7,.c (.int .i64 (ncls i (Conn (M++L.take s.1)):Nat))),(22,.c (.slice (A1b L) .none)),(23,.c (.int .i64 (L.length:Int))),(24,.c (.int .i64 (s.1:Int)))]) (fun s=>[.box (fC s.2)]) (fun s=>s.1≤L.length∧TDe i (M++L.take s.1) s.2) (fun s=>L.length-s.1) ((0,F)) (hk:=A0r.headL 1 35 [4,7,22,23,24] (zV @A0Y)) (h0:=?_) (round:=fun s hI=>?_)
   ·exact ⟨Xj _,by simpa using ⟨rt,dp,td⟩⟩
   ·obtain ⟨k,F2⟩:=s;obtain ⟨hk,hT⟩:=hI;simp only at hk hT ⊢;by_cases hlt2:k<L.length
    ·have hltI:(k:Int)<L.length:=by omega
     have e0:=Qq hlt2;have e1:=A2o e0;have hsn:=take_snoc e0;have hrng:=hL _ (Xw hlt2);generalize L[k]=p at*;obtain ⟨pa,pb⟩:=p;obtain ⟨a,rfl⟩:=XX hrng.1.1;obtain ⟨b,rfl⟩:=XX hrng.2.1;have ha:a<i:=by have:=hrng.1.2; simp only at this; omega
     have hb:b<i:=by have:=hrng.2.2; simp only at this; omega
     change L.take (k+1)=L.take k++[((a:Int),(b:Int))] at hsn;change (A1b L)[k]? =some [.int .i64 (a:Int),.int .i64 (b:Int)] at e1;obtain ⟨rt2,dp2,t2⟩:=hT;have hM2:InN i (M++L.take k):=fun q hq=>by
      rcases XW.1 hq with hq | hq
      ·exact hM q hq
      ·exact hL q (VJ hq)
     have tn:=t2.snoc (a:=a) (b:=b) hn hM2 ha hb;rw [Zv,<-hsn] at tn;have hJ:=A7A t2.tc.tf a b (by omega) (by omega) (H:=[.box (fC F2),.box [.int .i64 (a:Int),.int .i64 (b:Int)]]) (id:=0) rfl;have hcn:=t2.tc.conn a b (by omega) (by omega);have hcl2:=C21 i (Conn (M++L.take k));by_cases e:rt2 a=rt2 b
     ·have hs:=A3n (n:=i) (hcn.1 e);rw [Zv,<-hsn] at hs;rw [decide_eq_true e,Vz] at hJ;simp only [List.set_cons_succ,List.set_cons_zero,List.cons_append,List.nil_append] at hJ;refine zJ Qw6 (zc @hltI (zc @e1 (zc @A02 Qw6))) Qw6 (zc hJ Qw6) Qw6 ?_;refine ⟨(k+1,F2.set (rt2 a) (rt2 b)),A0r.headF 1 35 [4,7,22,23,24] (zc @hs Qw6) (zV @A0Y),?_,?_⟩
      ·exact ⟨hlt2,tn⟩
      ·simp only; omega
     ·have hs:=A22 (n:=i) ha hb (fun h=>e (hcn.2 h));rw [Zv,<-hsn] at hs;have hsI:((ncls i (Conn (M++L.take k)):Nat):Int)-1=((ncls i (Conn (M++L.take (k+1))):Nat):Int):=by omega
      rw [decide_eq_false e,Qq5] at hJ;simp only [List.set_cons_succ,List.set_cons_zero,List.cons_append,List.nil_append] at hJ;refine zJ Qw6 (zc @hltI (zc @e1 (zc @A02 (zc @hsI Qw6)))) Qw6 (zc hJ Qw6) Qw6 ?_;refine ⟨(k+1,F2.set (rt2 a) (rt2 b)),A0r.headN 1 35 [4,7,22,23,24] (zV @A0Y),?_,?_⟩
      ·exact ⟨hlt2,tn⟩
      ·simp only; omega
    ·have ek:k=L.length:=by omega
     subst ek;have hnl: ¬((L.length:Int)<L.length):=by omega
     rw [Zk];by_cases h1:ncls i (Conn (M++L))=1
     ·rw [decide_eq_true h1,h1];refine zR (zc @hnl Qw6) Qw6 Qw6 ?_;simp [A0y,A0x,Blk.cells,ty,Tryz.results128,A0s,A0u,toT,A0e,A0b,A0c,A0a,A01]
     ·rw [decide_eq_false h1];have h1I: ¬((ncls i (Conn (M++L)):Nat):Int)=1:=by omega
      refine zR (zc @hnl (zc @h1I Qw6)) Qw6 Qw6 ?_;simp [A0y,A0x,Blk.cells,ty,Tryz.results128,A0s,A0u,toT,A0e,A0b,A0c,A0a,A01]
theorem B8z (l:List Int) (hne:l≠[]) (hl:l.length<2^30):ACallX Tryz.prog 127 [] [ofT (A0m l)] (A0m l):=by
 have hrn:A0o l≠[]:=by simpa [A0o] using hne
 have hrl:(A0o l).length=l.length:=A0d l;have hrk: ∀r,r∈A0o l->r.length=1:=fun r hr=>A1c hr;have hrf: ∀r,r∈A0o l->A1f r=true:=fun r hr=>by obtain ⟨x,_,rfl⟩:=Xq.1 hr; rfl
 unfold A0m;generalize A0o l=rows at*;refine ACallX.of_body Tryz.func127 rfl (by kernel_rfl) (by simp [isMap]) ?_;simp only [entry,Tryz.ntmps127,ofT,A2A,A04,Xy,XV,List.length_cons,List.length_nil,Nat.reduceAdd,Nat.reduceSub,List.replicate_succ,List.replicate_zero,List.cons_append,List.nil_append];refine FWp.of_awp ?_
 repeat' (first|((first|(refine zT ?_;intro K' hK')|(refine zG ?_ ?_<;>(try refine zH ?_)<;>intro hguard<;>(try exact zX)<;>try intro K' hK'))<;>((try simp+contextual only [go_sem,hrl,chunks,List.range,List.range.loop]);(repeat' first|(with_reducible refine hK' _ _ ?_;clear hK' K')|(exact hrn)|(with_reducible exact hrk _ (by assumption))|(exact .inr Qw4)|exact zY|with_reducible refine Qw5 ?_ ?_|(with_reducible intro hpath;try exact zP)|(refine hK' _ _ ?_;clear hK' K')|fail);try refine zS ?_))|(refine zE ?_;refine hK _ _ ?_;clear hK K)|(refine zN ?_;try refine zS ?_)|refine zA ?_|(refine zB ?_;intro K hK)|(refine zC ?_ ?_<;>(try refine zH ?_)<;>intro hcond<;>try exact zX)|fail)
 simp [B91,B4Z,Blk.cells,ty,Tryz.results127,A0s,A0u,toT,A5H,A0a,Tree.flat];exact hrf
theorem B5L:ACall Tryz.prog 127 [A0m []] (A0m []):=by
 refine ACall.of_body Tryz.func127 rfl (by kernel_rfl) ?_;simp only [entry,Tryz.ntmps127,A0m,A0o];refine zU ?_
 repeat' (first|((with_reducible refine AWp.seq (AWp.of_reg (id:=1) (AReg.pre 1 (fun K hK=>?_))));simp only [List.take_succ_cons,List.take_zero])|((with_reducible refine AWp.of_reg (id:=1) (AReg.pre 1 (fun K hK=>?_)));simp only [List.take_succ_cons,List.take_zero])|((first|(refine zT ?_;intro K' hK')|(refine zG ?_ ?_<;>(try refine zH ?_)<;>intro hguard<;>(try exact zX)<;>try intro K' hK'))<;>((try simp+contextual only [go_sem]);(repeat' first|(with_reducible refine hK' _ _ ?_;clear hK' K')|exact zY|with_reducible refine Qw5 ?_ ?_|(with_reducible intro hpath;try exact zP)|(refine hK' _ _ ?_;clear hK' K')|fail);try refine zS ?_))|(refine zE ?_;refine hK _ _ ?_;clear hK K)|(refine zN ?_;try refine zS ?_)|refine zA ?_|(refine zB ?_;intro K hK)|(refine zC ?_ ?_<;>(try refine zH ?_)<;>intro hcond<;>try exact zX)|fail)
 simp only [Zx,ZY];refine AReg.nilq (e:=3) false rfl rfl rfl (by simp only [ty]) rfl rfl (fun b=>AReg.rest (fun K hK=> ?_));cases b
 ·
  repeat' (first|((first|(refine zT ?_;intro K' hK')|(refine zG ?_ ?_<;>(try refine zH ?_)<;>intro hguard<;>(try exact zX)<;>try intro K' hK'))<;>((try simp+contextual only [go_sem,List.length_nil,chunks,List.range,List.range.loop,XV]);(repeat' first|(with_reducible refine hK' _ _ ?_;clear hK' K')|(exact .inr Qw4)|(exact absurd Qw4 (by assumption))|exact zY|with_reducible refine Qw5 ?_ ?_|(with_reducible intro hpath;try exact zP)|(refine hK' _ _ ?_;clear hK' K')|fail);try refine zS ?_))|(refine zE ?_;refine hK _ _ ?_;clear hK K)|(refine zN ?_;try refine zS ?_)|refine zA ?_|(refine zB ?_;intro K hK)|(refine zC ?_ ?_<;>(try refine zH ?_)<;>intro hcond<;>try exact zX)|fail)
  simp [A0y,A0x,Blk.cells,ty,Tryz.results127,A0s,A0u,toT,A0e,A0b,A0c,A0a,A0m,A0o]
 ·
  repeat' (first|((first|(refine zT ?_;intro K' hK')|(refine zG ?_ ?_<;>(try refine zH ?_)<;>intro hguard<;>(try exact zX)<;>try intro K' hK'))<;>((try simp+contextual only [go_sem]);(repeat' first|(with_reducible refine hK' _ _ ?_;clear hK' K')|exact zY|with_reducible refine Qw5 ?_ ?_|(with_reducible intro hpath;try exact zP)|(refine hK' _ _ ?_;clear hK' K')|fail);try refine zS ?_))|(refine zE ?_;refine hK _ _ ?_;clear hK K)|(refine zN ?_;try refine zS ?_)|refine zA ?_|(refine zB ?_;intro K hK)|(refine zC ?_ ?_<;>(try refine zH ?_)<;>intro hcond<;>try exact zX)|fail)
  simp [A0y,A0x,Blk.cells,ty,Tryz.results127,A0s,A0u,toT,A0e,A0b,A0c,A0a,A0m,A0o]
theorem C4T:A1J Tryz.prog 158=some false:=by kernel_rfl
theorem C4U:A0z Tryz.prog 158=some 1:=by kernel_rfl
theorem C4V:A08 Tryz.prog 158=some .nilFunc:=by kernel_rfl
theorem C4W:A05 Tryz.prog 158=some 8:=by kernel_rfl
theorem C4X:A1J Tryz.prog 159=some false:=by kernel_rfl
theorem C4Y:A0z Tryz.prog 159=some 1:=by kernel_rfl
theorem C4Z:A08 Tryz.prog 159=some .nilFunc:=by kernel_rfl
theorem C5a:A05 Tryz.prog 159=some 8:=by kernel_rfl
attribute [go_sem] C4T C4U C4V C4W C4X C4Y C4Z C5a
def growCaps (n:Nat) (L:List (Int×Int)):List ACap:=[.tree (.rptr [.int .i64 (n:Int)]),.ptr 1 0,.tree (.rptr [.slice (A1b L)]),.ptr 2 0]
def A53 (T:List Nat):TVal:=A0m (T.map fun x:Nat=>(x:Int))
def nC (t:List Nat):List ACell:=t.map fun x:Nat=>ACell.int .i64 (x:Int)
theorem B1T (t:List Nat):(nC t).length=t.length:=by simp [nC]
theorem B0A (t:List Nat) (e:Nat):nC t++[.int .i64 (e:Int)]=nC (t++[e]):=by simp [nC]
structure GH (l n:Nat) (L:List (Int×Int)) (H1:List Blk):Prop where
 yld: ∀X:List Blk,(H1++X)[0]? =some (.box [.yld l])
 fn: ∀X:List Blk,(H1++X)[1]? =some (.box [.fn 126 (growCaps n L)])
 ok: ∀blk,blk∈H1->okBlk blk
 inn: ∀blk,blk∈H1->blkIn (H1.length+1) blk
 len:2≤H1.length
def GV (t:List Nat) (j cap:Nat) (H1:List Blk):Prop:=(cap=0∧t=[])∨(2≤j∧H1[j]? =some (.box (nC t++List.replicate (cap-t.length) .any)))
theorem A9Q {n:Nat} {L:List (Int×Int)} {fuel:Nat} {t:List Nat} {e:Nat} (h:t.length+1=n):A1I n L fuel t e=[t]:=by
 cases fuel<;>(unfold A1I; rw [if_pos h])
def GR (J:Nat->Sig->World->Prop) (Jx:Sig->World->Prop) (k:Nat) (H1:List Blk) (H':List Blk) (r:AVal):Prop:=
 ∃X,(r= .c (.bool true)∧H'= .ghost (J k)::(H1++X))∨(r= .c (.bool false)∧H'= .ghost Jx::(H1++X))
theorem okF {H1:List Blk} {F:List Nat} (h: ∀blk,blk∈H1->okBlk blk) (hf:F.length=12): ∀blk,blk∈H1++[.box (fC F)]->okBlk blk:=fun blk hb=>by
 rcases XW.1 hb with hb | hb
 ·exact h blk hb
 ·rw [Zz] at hb; subst hb
  match F,hf with
  | x::F,_=>exact trivial
theorem A6o {m m':Nat} (hm:m≤m') {c:ACap} (h:B0j m c):B0j m' c:=by
 cases c with
 | tree t=>trivial
 | _=>exact ZZ h hm
theorem B80 {m m':Nat} (hm:m≤m') {c:ACell} (h:A5G m c):A5G m' c:=by
 cases c with
 | slice rows tok=>cases tok with
  | chain i=>exact ZZ h hm
  | tail i p=>exact ZZ h hm
  | _=>trivial
 | bfn f caps=>exact fun x hx=>A6o hm (h x hx)
 | fn f caps=>exact fun x hx=>A6o hm (h x hx)
 | rows rs tok=>exact ⟨fun r hr x hx=>A6o hm (h.1 r hr x hx),by
   cases tok with
   | chain i=>exact ZZ h.2 hm
   | tail i p=>exact ZZ h.2 hm
   | _=>trivial⟩
 | rptrC cs=>exact fun x hx=>A6o hm (h x hx)
 | ptr _ _=>exact ZZ h hm
 | ref _ _ _ _ _=>exact ZZ h hm
 | vec _ _ _=>exact ZZ h hm
 | map _=>exact ZZ h hm
 | iter _=>exact ZZ h hm
 | _=>trivial
theorem B4v {m m':Nat} (hm:m≤m') {b:Blk} (h:blkIn m b):blkIn m' b:=by
 cases b with
 | box cs=>exact fun c hc=>B80 hm (h c hc)
 | roC cs=>exact fun c hc=>A6o hm (h c hc)
 | iter i _ _=>exact ZZ h hm
 | _=>trivial
@[simp] theorem C4K (B:Blk) (H1 X:List Blk):(H1++B::X).take (H1.length+1)=H1++[B]:=by
 rw [List.take_length_add_append]; rfl
theorem inF {l n:Nat} {L:List (Int×Int)} {H1:List Blk} (hG:GH l n L H1) (F:List Nat):A1z (H1.length+2) (H1++[.box (fC F)]):=fun b hb=>by
 rcases XW.1 hb with hb | hb
 ·exact B4v (by omega) (hG.inn b hb)
 ·rw [Zz] at hb; subst hb; exact A0Y
theorem GH.app {l n:Nat} {L:List (Int×Int)} {H1 X:List Blk} (hG:GH l n L H1) (h1: ∀b,b∈X->okBlk b) (h2: ∀b,b∈X-> ∀m,blkIn m b):GH l n L (H1++X) where
 yld Y:=by rw [Zv]; exact hG.yld _
 fn Y:=by rw [Zv]; exact hG.fn _
 ok b hb:=by
  rcases XW.1 hb with hb | hb
  ·exact hG.ok b hb
  ·exact h1 b hb
 inn b hb:=by
  rcases XW.1 hb with hb | hb
  ·exact B4v (by rw [Xv]; omega) (hG.inn b hb)
  ·exact h2 b hb _
 len:=by have:=hG.len; rw [Xv]; omega
theorem GH.put {l n:Nat} {L:List (Int×Int)} {H1:List Blk} (hG:GH l n L H1) {j:Nat} (hj2:2≤j) {B:Blk} (h1:okBlk B) (h2: ∀m,blkIn m B):GH l n L (H1.set j B) where
 yld Y:=by
  have:=hG.yld Y;have hl:=hG.len;rw [Qv (by omega)] at this;rw [Qv (by rw [Yz]; omega),QX (by omega)]; exact this
 fn Y:=by
  have:=hG.fn Y;have hl:=hG.len;rw [Qv (by omega)] at this;rw [Qv (by rw [Yz]; omega),QX (by omega)]; exact this
 ok b hb:=by
  rcases List.mem_or_eq_of_mem_set hb with hb | rfl
  ·exact hG.ok b hb
  ·exact h1
 inn b hb:=by
  rcases List.mem_or_eq_of_mem_set hb with hb | rfl
  ·rw [Yz]; exact hG.inn b hb
  ·exact h2 _
 len:=by rw [Yz]; exact hG.len
theorem C22 {m:Nat} (t:List Nat) (k:Nat):blkIn m (.box (nC t++List.replicate k .any)):=fun c hc=>by
 rcases XW.1 hc with hc | hc
 ·obtain ⟨x,_,rfl⟩:=Xq.1 hc; exact trivial
 ·rw [(WJ.1 hc).2]; exact trivial
theorem B81 {t:List Nat} (k:Nat) (h:t≠[]):okBlk (.box (nC t++List.replicate k .any)):=by
 cases t with
 | nil=>exact absurd rfl h
 | cons x t=>exact trivial
theorem B82 {t:List Nat} {a cap:Nat} (h:t.length<cap):(nC (t++[a])++List.replicate (cap-(t.length+1)) ACell.any).set t.length .any=nC t++List.replicate (cap-t.length) .any:=by
 rw [<-B0A,Zv,Jy _ _ (by rw [B1T]; exact QQ _),B1T,Jq];congr 1;obtain ⟨d,hd⟩: ∃d,cap-t.length=d+1:=⟨cap-t.length-1,by omega⟩;rw [show cap-(t.length+1)=d by omega,hd,List.replicate_succ]; rfl
theorem B4w {H1 X:List Blk} {G B C:Blk} {j:Nat} (hj:H1[j]? =some C):(G::(H1.set j B++X)).set (j+1) C=G::(H1++X):=by
 have hl:=(Qx.1 hj).1;rw [List.set_cons_succ,Qq4 _ _ (by rw [Yz]; exact hl),List.set_set];congr 2;apply XZ;intro i;by_cases e:j=i
 ·subst e; rw [QW hl,hj]
 ·rw [QX e]
theorem B5M {n:Nat} {L:List (Int×Int)} {t:List Nat} {a:Nat} (ha:a<L.length) (h: ¬t.length+1=n):A1I n L (L.length-a) t a=(open Classical in if A57 (pkN L (t++[a])) then A1I n L (L.length-(a+1)) (t++[a]) (a+1) else [])++A1I n L (L.length-(a+1)) t (a+1):=by
 rw [show L.length-a=(L.length-(a+1))+1 by omega,A1I,if_neg h]
theorem C23 (t:List Nat) (X:List ACell):(nC t++X).take t.length=nC t:=by
 rw [<-B1T t,List.take_left]
theorem B3w (ts:List Tree):(ts.map fun t=>[t]).flatten=ts:=by
 induction ts with
 | nil=>rfl
 | cons t ts ih=>simp only [Xy,List.flatten_cons,List.singleton_append,ih]
theorem B5N (ts:List Tree):chunks 1 ts.length ts=ts.map fun t=>[t]:=by
 have h:=Go.Sp.chunks_flatten (k:=1) (rows:=ts.map fun t=>[t]) (fun r hr=>by obtain ⟨t,_,rfl⟩:=Xq.1 hr; rfl);rw [XY,B3w] at h;exact h
theorem C0D (t:List Nat):(nC t).mapM A0a=some (t.map fun x:Nat=>Tree.int .i64 (x:Int)):=by
 induction t with
 | nil=>rfl
 | cons x t ih=>unfold nC at ih ⊢; simp [Jj,A0a,ih]
theorem C24 {H:List Blk} {j:Nat} {t:List Nat} {X:List ACell} (hj:H[j]? =some (.box (nC t++X))):A0b H (.ref j 1 0 t.length t.length)=some (.slice (A0o (t.map fun x:Nat=>(x:Int)))):=by
 simp only [A0b,hj,Blk.cells,Option.bind_some,QQ,true_and,ZY,Yq,Xk,C23,C0D,Option.map_some];rw [if_pos (by simp [B1T])];have h:=B5N (t.map fun x:Nat=>Tree.int .i64 (x:Int));rw [XY] at h;rw [h];simp [A0o]
theorem B83 {d:List Int} {i:Nat} (h:i<d.length):d.getD i 0=d[i]:=by
 rw [Qz,Qq h]; rfl
def inD (k:Int):Bool:=decide (-1048576≤k∧k≤1048576)
def B9i (d:List Int) (n:Int):Int:=if n<1∨12<n then 2 else if (d.length:Int)≠n then 8 else if d.all inD=true then 0 else 2
theorem C25 {d:List Int} {n:Nat} (h:B9i d n=0):1≤n∧n≤12∧d.length=n∧bndL 1048576 d:=by
 unfold B9i at h;split at h
 ·cases h
 ·split at h
  ·cases h
  ·split at h
   ·rename_i h1 h2 h3;refine ⟨by omega,by omega,by omega,fun v=> ?_⟩;by_cases hv:v<d.length
    ·rw [B83 hv];have:=Zw.1 h3 _ (Xw hv);unfold inD at this;simpa using this
    ·rw [Qz,QV (by omega)]; simp
   ·cases h
theorem B84 (k:Int):ACall Tryz.prog 107 [A0k k] (A01 (inD k)):=by
 unfold inD;by_cases h1: -1048576≤k
 ·by_cases h2:k≤1048576
  ·have h3:k≥ -1048576:=h1;rw [decide_eq_true ⟨h1,h2⟩];refine ACall.of_body Tryz.func107 rfl (by kernel_rfl) ?_;simp only [entry,Tryz.ntmps107,A0k];refine zU ?_;refine zR (zc @h3 (zc @h2 Qw6)) Qw6 Qw6 ?_;simp [A0y,A0x,Blk.cells,ty,Tryz.results107,A0s,A0u,toT,A0e,A0b,A0c,A0a,A01]
  ·have h3:k≥ -1048576:=h1;rw [decide_eq_false (fun h=>h2 h.2)];refine ACall.of_body Tryz.func107 rfl (by kernel_rfl) ?_;simp only [entry,Tryz.ntmps107,A0k];refine zU ?_;refine zR (zc @h3 (zc @h2 Qw6)) Qw6 Qw6 ?_;simp [A0y,A0x,Blk.cells,ty,Tryz.results107,A0s,A0u,toT,A0e,A0b,A0c,A0a,A01]
 ·have h3: ¬k≥ -1048576:=h1;rw [decide_eq_false (fun h=>h1 h.1)];refine ACall.of_body Tryz.func107 rfl (by kernel_rfl) ?_;simp only [entry,Tryz.ntmps107,A0k];refine zU ?_;refine zR (zc @h3 Qw6) Qw6 Qw6 ?_;simp [A0y,A0x,Blk.cells,ty,Tryz.results107,A0s,A0u,toT,A0e,A0b,A0c,A0a,A01]
theorem B3x (n:Int):ACall Tryz.prog 106 [A0k n] (A0k (if n<1∨12<n then 2 else 0)):=by
 by_cases h1:n<1
 ·rw [if_pos (.inl h1)];refine ACall.of_body Tryz.func106 rfl (by kernel_rfl) ?_;simp only [entry,Tryz.ntmps106,A0k];refine zU ?_;refine zR (zc @h1 Qw6) Qw6 Qw6 ?_;simp [A0y,A0x,Blk.cells,ty,Tryz.results106,A0s,A0u,toT,A0e,A0b,A0c,A0a,A0k]
 ·by_cases h2:n>12
  ·rw [if_pos (.inr h2)];refine ACall.of_body Tryz.func106 rfl (by kernel_rfl) ?_;simp only [entry,Tryz.ntmps106,A0k];refine zU ?_;refine zR (zc @h1 (zc @h2 Qw6)) Qw6 Qw6 ?_;simp [A0y,A0x,Blk.cells,ty,Tryz.results106,A0s,A0u,toT,A0e,A0b,A0c,A0a,A0k]
  ·rw [if_neg (by omega)];refine ACall.of_body Tryz.func106 rfl (by kernel_rfl) ?_;simp only [entry,Tryz.ntmps106,A0k];refine zU ?_;refine zR (zc @h1 (zc @h2 Qw6)) Qw6 Qw6 ?_;simp [A0y,A0x,Blk.cells,ty,Tryz.results106,A0s,A0u,toT,A0e,A0b,A0c,A0a,A0k]
theorem C26 {d:List Int} {i:Nat} (h: ∀j,j<i->inD (d.getD j 0)=true) (hi:i=d.length):d.all inD=true:=by
 rw [Zw];intro x hx;obtain ⟨j,hj,rfl⟩:=Ww.1 hx;have:=h j (by omega);rwa [B83 hj] at this
theorem C27 {d:List Int} {i:Nat} (hi:i<d.length) (h:inD (d.getD i 0)=false): ¬d.all inD=true:=fun ha=>by
 have:=Zw.1 ha _ (Xw hi);rw [B83 hi,this] at h;cases h
theorem B1U (d:List Int) (n:Int) (hdl:d.length<2^40):ACall Tryz.prog 63 [A0m d,A0k n] (A0k (B9i d n)):=by
 have hV:=B3x n;unfold B9i;by_cases h1:n<1∨12<n
 ·rw [if_pos h1] at hV ⊢;refine ACall.of_body Tryz.func63 rfl (by kernel_rfl) ?_;simp only [entry,Tryz.ntmps63,A0m,A0k];refine zU ?_;refine zR Qw6 (zc hV Qw6) Qw6 ?_;simp [A0y,A0x,Blk.cells,ty,Tryz.results63,A0s,A0u,toT,A0e,A0b,A0c,A0a,A0k]
 rw [if_neg h1] at hV ⊢;by_cases hd:(d.length:Int)=n
 case neg=>
  rw [if_pos hd];refine ACall.of_body Tryz.func63 rfl (by kernel_rfl) ?_;simp only [entry,Tryz.ntmps63,A0m,A0k];refine zU ?_;refine zR (zc @A0d (zc @hd Qw6)) (zc hV Qw6) Qw6 ?_;simp [A0y,A0x,Blk.cells,ty,Tryz.results63,A0s,A0u,toT,A0e,A0b,A0c,A0a,A0k]
 rw [if_neg (by omega)];subst hd;refine ACall.of_body Tryz.func63 rfl (by kernel_rfl) ?_;simp only [entry,Tryz.ntmps63,A0m,A0k];refine zU ?_;refine zJ (stop 7) (zc @A0d Qw6) (zc hV Qw6) Qw6 Qw6 ?_;refine AWp.loopS (α:=Nat) 27 (fun i=>[(17,.c (.slice (A0o d) .none)),(18,.c (.int .i64 (d.length:Int))),(19,.c (.int .i64 (i:Int)))]) (fun i=>[]) (fun i=>i≤d.length∧ ∀j,j<i->inD (d.getD j 0)=true) (fun i=>d.length-i) (0) (hk:=A0r.headL 0 27 [17,18,19] zW) (h0:=?_) (round:=fun i hI=>?_)
 ·exact ⟨Xj _,fun j hj=>by omega⟩
 ·obtain ⟨hi,hpre⟩:=hI;by_cases hil:i<d.length
  ·have hiI:(i:Int)<(d.length:Int):=by omega
   have hg:=A0t (A11 (d:=d) (i:=i) hil);have hw:=B84 (d.getD i 0);cases hin:inD (d.getD i 0) with
   | false=>
    rw [if_neg (C27 hil hin)];rw [hin] at hw;clear hpre hin;generalize d.getD i 0=x at*;refine zR (zc @hiI (zc @hg (zc @A0d (zc @Xk Qw6)))) (zc hw Qw6) Qw6 ?_;simp [A0y,A0x,Blk.cells,ty,Tryz.results63,A0s,A0u,toT,A0e,A0b,A0c,A0a,A0k]
   | true=>
    have hp2: ∀j,j<i+1->inD (d.getD j 0)=true:=fun j hj=>by
     by_cases e:j=i
     ·rw [e]; exact hin
     ·exact hpre j (by omega)
    rw [hin] at hw;clear hpre hin;generalize d.getD i 0=x at*;refine zR (zc @hiI (zc @hg (zc @A0d (zc @Xk Qw6)))) (zc hw Qw6) Qw6 ?_;refine ⟨i+1,A0r.headN 0 27 [17,18,19] zW,?_,?_⟩
    ·exact ⟨hil,hp2⟩
    ·omega
  ·have hnl: ¬(i:Int)<(d.length:Int):=by omega
   rw [if_pos (C26 hpre (by omega))];refine zR (zc @hnl Qw6) Qw6 Qw6 ?_;simp [A0y,A0x,Blk.cells,ty,Tryz.results63,A0s,A0u,toT,A0e,A0b,A0c,A0a,A0k]
end Go.Proofs.YtdbdfkohpjefjaaGreat
