/- A part of the proof. -/
import Derived.Test.YtdbdfkohpjefjaaGreatPart29
import Derived.Test.YtdbdfkohpjefjaaGreatPart31
import Derived.Test.YtdbdfkohpjefjaaGreatPart32
set_option linter.all false
set_option maxHeartbeats 4000000
set_option maxRecDepth 100000
namespace Go.Proofs.YtdbdfkohpjefjaaGreat
open Go.Sp
theorem C3Z (L:List (Int×Int)) (T:List Nat):(pkN L T).length=T.length:=by simp [pkN]
theorem B4a (L:List (Int×Int)) (A B:List Nat):pkN L (A++B)=pkN L A++pkN L B:=by simp [pkN]
theorem B92 {n:Nat} {L:List (Int×Int)} {T:List Nat} (hL:InN n L) (ht: ∀x,x∈T->x<L.length):InN n (pkN L T):=fun p hp=>by
 obtain ⟨x,hx,rfl⟩:=QJ.1 hp;rw [Qz,Qq (ht x hx)];exact hL _ (Xw _)
open Classical in
noncomputable def A17 (n:Nat) (L:List (Int×Int)):Nat->List Nat->Nat->List (List Nat)
 | 0,t,_=>if t.length+1=n then [t] else []
 | k+1,t,e=>if t.length+1=n then [t] else (if A4t (pkN L (t++[e])) then A17 n L k (t++[e]) (e+1) else [])++A17 n L k t (e+1)
theorem A3R {n:Nat} {L:List (Int×Int)}: ∀{k:Nat} {t:List Nat} {e:Nat} {T:List Nat},A4t (pkN L t)->
  (T∈A17 n L k t e↔ ∃s,T=t++s∧s.Pairwise (·< ·)∧(∀x,x∈s->e≤x∧x<e+k)∧T.length+1=n∧A4t (pkN L T)):=by
 intro k
 induction k with
 | zero=>
  intro t e T ha;unfold A17;constructor
  ·intro h;split at h
   ·rename_i hl;rw [Zz] at h;subst h;exact ⟨[],by simp,.nil,by simp,hl,ha⟩
   ·cases h
  ·rintro ⟨s,rfl,_,h2,h3,_⟩;have:s=[]:=by
    cases s with
    | nil=>rfl
    | cons x s=>have:=h2 x (by simp); omega
   subst this;rw [WZ] at h3 ⊢;rw [if_pos h3]; simp
 | succ k ih=>
  intro t e T ha;unfold A17;by_cases hl:t.length+1=n
  ·rw [if_pos hl,Zz];constructor
   ·rintro rfl;exact ⟨[],by simp,.nil,by simp,hl,ha⟩
   ·rintro ⟨s,rfl,_,_,h3,_⟩;have:s.length=0:=by rw [Xv] at h3; omega
    rw [Yq.1 this,WZ]
  ·rw [if_neg hl,XJ,ih ha];constructor
   ·rintro (h | ⟨s,h1,h2,h3,h4,h5⟩)
    ·split at h
     ·rename_i hc;obtain ⟨s,h1,h2,h3,h4,h5⟩:=(ih hc).1 h;refine ⟨e::s,by rw [h1]; simp,YY.2 ⟨fun x hx=>by have:=(h3 x hx).1; omega,h2⟩,fun x hx=> ?_,h4,h5⟩;rcases Qw.1 hx with rfl | hx
      ·omega
      ·have:=h3 x hx; omega
     ·cases h
    ·exact ⟨s,h1,h2,fun x hx=>by have:=h3 x hx; omega,h4,h5⟩
   ·rintro ⟨s,rfl,h2,h3,h4,h5⟩;cases s with
    | nil=>exact absurd (by simpa using h4) hl
    | cons x s=>
     by_cases hx:x=e
     ·subst hx;left;have hc:A4t (pkN L (t++[x])):=by
       rw [show t++x::s=(t++[x])++s by simp,B4a] at h5;exact B5a h5
      rw [if_pos hc];refine (ih hc).2 ⟨s,by simp,(YY.1 h2).2,fun y hy=> ?_,h4,h5⟩;have:=(YY.1 h2).1 y hy;have:=h3 y (by simp [hy]);omega
     ·right;refine ⟨x::s,rfl,h2,fun y hy=> ?_,h4,h5⟩;have h6:=h3 x (by simp);have h7:=h3 y hy;rcases Qw.1 hy with rfl | hy
      ·omega
      ·have:=(YY.1 h2).1 y hy; omega
theorem A9d {n:Nat} {L:List (Int×Int)}: ∀{k:Nat} {t:List Nat} {e:Nat},A4t (pkN L t)->(A17 n L k t e).Nodup:=by
 intro k
 induction k with
 | zero=>intro t e _; unfold A17; split<;>simp
 | succ k ih=>
  intro t e ha;unfold A17;split
  ·simp
  ·refine WX.2 ⟨?_,ih ha,fun A hA B hB=> ?_⟩
   ·split
    ·rename_i hc; exact ih hc
    ·simp
   ·rintro rfl;split at hA
    ·rename_i hc;obtain ⟨s,h1,_⟩:=(A3R hc).1 hA;obtain ⟨s',h2,_,h3,_⟩:=(A3R ha).1 hB;rw [h1,Zk] at h2;have h4:=List.append_cancel_left h2;have:=h3 e (by rw [<-h4]; simp);omega
    ·cases hA
theorem B6F {n:Nat} {R:Nat->Nat->Prop} (h0:0<n) (h: ∀x y,x<n->y<n->R x y):ncls n R=1:=by
 rw [A2o (S:=fun x y=>(fun _:Nat=>0) x=(fun _:Nat=>0) y) fun x y hx hy=>⟨fun _=>rfl,fun _=>h x y hx hy⟩];exact A8Z _ (fun x _=>by omega) fun v hv=>⟨0,h0,by omega⟩
theorem B93 {n:Nat} {L:List (Int×Int)} (h0:0<n) (hL:InN n L) {k:Nat} {t:List Nat} {e:Nat} (ha:A4t (pkN L t)) (ht: ∀x,x∈t->x<L.length) (he:e+k=L.length)
  (hn:ncls n (Conn (pkN L t++L.drop e))≠1):A17 n L k t e=[]:=by
 refine List.eq_nil_iff_forall_not_mem.2 fun T hT=>hn ?_;obtain ⟨s,rfl,h2,h3,h4,h5⟩:=(A3R ha).1 hT;have hin: ∀x,x∈t++s->x<L.length:=fun x hx=>by
  rcases XJ.1 hx with hx | hx
  ·exact ht x hx
  ·have:=h3 x hx; omega
 have h6:=(A4j (n:=n) (pkN L (t++s)) (B92 hL hin)).2.1 h5;rw [C3Z] at h6;have h7:ncls n (Conn (pkN L (t++s)))=1:=by omega
 refine B6F h0 fun x y hx hy=> ?_;refine B1a (l:=pkN L (t++s)) (fun u w hu=> .inl ?_) (A63 (A5t n _) h7 hx hy);rw [B4a] at hu;rcases XJ.1 hu with hu | hu
 ·exact Qw0 _ hu
 ·refine List.mem_append_right _ ?_;obtain ⟨i,hi,hp⟩:=QJ.1 hu;have hb:=h3 i hi;rw [Qz,Qq (show i<L.length by omega),Option.getD_some] at hp;rw [<-hp];refine ZZ.2 ⟨i-e,?_⟩;rw [YX,show e+(i-e)=i by omega];exact Qq _
def cntF (n:Nat) (F:List Nat):Nat:=((List.range n).filter fun v=>decide (F[v]? =some v)).length
structure TD (n:Nat) (M:List (Int×Int)) (F:List Nat) (rt dp:Nat->Nat):Prop where
 tc:TC M F rt dp
 lt: ∀v,v<n->rt v<n
 cnt:cntF n F=ncls n (Conn M)
def TDe (n:Nat) (M:List (Int×Int)) (F:List Nat):Prop:= ∃rt dp,TD n M F rt dp
theorem C4a {n:Nat} {M:List (Int×Int)} (hM:InN n M) {u w:Nat} (h:Conn M u w) (hu:u<n):w<n:=by
 induction h with
 | refl=>exact hu
 | step _ hs _=>
  rcases hs with hs | hs
  ·have:=(hM _ hs).2.2; simp only at this; omega
  ·have:=(hM _ hs).1.2; simp only at this; omega
theorem TD.of {n:Nat} {M:List (Int×Int)} {F:List Nat} {rt dp:Nat->Nat} (tc:TC M F rt dp) (hn:n≤12) (hM:InN n M) (hc:cntF n F=ncls n (Conn M)):TD n M F rt dp:=
 ⟨tc,fun v hv=>C4a hM ((tc.conn v (rt v) (by omega) (tc.tf.rlt v (by omega))).1 (tc.tf.idem (by omega)).symm) hv,hc⟩
theorem TDe.of {n:Nat} {M:List (Int×Int)} {F:List Nat} (tc:TCe M F) (hn:n≤12) (hM:InN n M) (hc:cntF n F=ncls n (Conn M)):TDe n M F:=by
 obtain ⟨rt,dp,tc⟩:=tc;exact ⟨rt,dp,TD.of tc hn hM hc⟩
theorem TDe.zero (n:Nat) (hn:n≤12):TDe n [] (List.range 12):=by
 refine TDe.of TCe.zero hn (fun p hp=>by simp at hp) ?_;rw [A4h];unfold cntF
 rw [List.filter_eq_self.2 (fun v hv=>by
  have:v<12:=by have:=XQ.1 hv; omega
  simp [this]),Vj]
theorem TD.snoc {n:Nat} {M:List (Int×Int)} {F:List Nat} {rt dp:Nat->Nat} (h:TD n M F rt dp) {a b:Nat} (hn:n≤12) (hM:InN n M) (ha:a<n) (hb:b<n):
  TDe n (M++[((a:Int),(b:Int))]) (F.set (rt a) (rt b)):=by
 refine TDe.of (h.tc.snoc (by omega) (by omega)) hn (fun p hp=> ?_) ?_
 ·rcases XJ.1 hp with hp | hp
  ·exact hM p hp
  ·rw [Zz] at hp; subst hp; simp only; omega
 ·have hcn:=h.tc.conn a b (by omega) (by omega);by_cases e:rt a=rt b
  ·rw [h.tc.tf.stay (by omega) e,A37 (hcn.1 e)];exact h.cnt
  ·have h1:=A2I (n:=n) ha hb (fun h=>e (hcn.2 h));have hfa:=h.tc.tf.fix a (by omega);have hla:=h.lt a ha
   have h2:=A7x (l:=List.range n) (p:=fun v=>decide (F[v]? =some v)) (q:=fun v=>decide ((F.set (rt a) (rt b))[v]? =some v)) (m:=rt a) Qq4 (XQ.2 hla) (by simp [hfa]) (fun x hx=>by
    by_cases hxa:x=rt a
    ·subst hxa;rw [QW (by rw [h.tc.tf.len]; omega)];simp [Ne.symm e]
    ·rw [QX (Ne.symm hxa)]
     simp [hxa])
   have h3:=h.cnt;unfold cntF at h3 ⊢;omega
theorem C1W {F:List Nat} {i:Nat}:cntF (i+1) F=cntF i F+(if F[i]? =some i then 1 else 0):=by
 unfold cntF;rw [Jq,JJ,Xv];by_cases h:F[i]? =some i
 ·rw [if_pos h]; simp [h]
 ·rw [if_neg h]; simp [h]
theorem cnt_le (F:List Nat) (i:Nat):cntF i F≤i:=Yk (Jy _ _) (by simp)
theorem C4b (n:Nat) (R:Nat->Nat->Prop):ncls n R≤n:=Yk (Jy _ _) (by simp)
theorem B4b (n:Nat) (hn:n≤12) (M L:List (Int×Int)) (F:List Nat) (hF:TDe n M F) (hM:InN n M) (hL:InN n L) (hl:L.length<2^40):
  ACall Tryz.prog 128 [A0k n,tF F,A0C L] (A0z (decide (ncls n (Conn (M++L))=1))):=by
 obtain ⟨rt,dp,td⟩:=hF;have hlen:=td.tc.tf.len;have hof:(fT F).map A04=fC F:=B6v F;refine ACall.of_body Tryz.func128 rfl (by kernel_rfl) ?_;simp only [entry,Tryz.ntmps128,A0k,A0C,tF];refine zU ?_;refine zR (zc @hof Qw9) Qw9 Qw9 ?_;refine AWp.loopS (α:=Nat) 35 (fun i=>[(2,.c (.slice (A1c L) .none)),(4,.c (.ptr 0 0)),(7,.c (.int .i64 (cntF i F:Nat))),(11,.c (.int .i64 (n:Int))),(12,.c (.int .i64 (i:Int)))]) (fun i=>[.box (fC F)]) (fun i=>i≤n) (fun i=>n-i) (0) (hk:=Weak.headL 1 35 [2,4,7,11,12] (zV @A0Z)) (h0:=?_) (round:=fun i hI=>?_)
 ·exact Xj _
 ·by_cases hlt:i<n
  ·have hltI:(i:Int)<n:=by omega
   have hR:=A7j td.tc.tf i (by omega) (H:=[.box (fC F)]) (id:=0) rfl;have hs:=C1W (F:=F) (i:=i);have hcl:=cnt_le F i;by_cases e:rt i=i
   ·have hfx:=td.tc.tf.fix i (by omega);rw [e] at hfx hR;rw [if_pos hfx] at hs;refine zJ Qw9 (zc @hltI Qw9) Qw9 (zc hR Qw9) Qw9 ?_;refine ⟨i+1,Weak.headF 1 35 [2,4,7,11,12] (zc @hs Qw9) (zV @A0Z),?_,?_⟩
    ·exact hlt
    ·omega
   ·have hfx: ¬F[i]? =some i:=fun h=>by
     have hil:i<F.length:=by omega
     rw [Qq hil] at h;exact e (td.tc.tf.self i hil (by simpa using h))
    rw [if_neg hfx,Nat.add_zero] at hs;have eI: ¬((rt i:Nat):Int)=i:=by omega
    refine zJ Qw9 (zc @hltI (zc @eI Qw9)) Qw9 (zc hR Qw9) Qw9 ?_;refine ⟨i+1,Weak.headN 1 35 [2,4,7,11,12] (zV @A0Z),?_,?_⟩
    ·exact hlt
    ·omega
  ·have ei:i=n:=by omega
   subst ei;have hnl: ¬((i:Int)<i):=by omega
   rw [td.cnt];refine zR (zc @hnl (zc @A02 Qw9)) Qw9 Qw9 ?_;refine AWp.loopS (α:=(Nat×List Nat)) 35 (fun s=>[(4,.c (.ptr 0 0)),(7,.c (.int .i64 (ncls i (Conn (M++L.take s.1)):Nat))),(22,.c (.slice (A1c L) .none)),(23,.c (.int .i64 (L.length:Int))),(24,.c (.int .i64 (s.1:Int)))]) (fun s=>[.box (fC s.2)]) (fun s=>s.1≤L.length∧TDe i (M++L.take s.1) s.2) (fun s=>L.length-s.1) ((0,F)) (hk:=Weak.headL 1 35 [4,7,22,23,24] (zV @A0Z)) (h0:=?_) (round:=fun s hI=>?_)
   ·exact ⟨Xj _,by simpa using ⟨rt,dp,td⟩⟩
   ·obtain ⟨k,F2⟩:=s;obtain ⟨hk,hT⟩:=hI;simp only at hk hT ⊢;by_cases hlt2:k<L.length
    ·have hltI:(k:Int)<L.length:=by omega
     have e0:=Qq hlt2;have e1:=A20 e0;have hsn:=take_snoc e0;have hrng:=hL _ (Xw hlt2);generalize L[k]=p at*;obtain ⟨pa,pb⟩:=p;obtain ⟨a,rfl⟩:=XW hrng.1.1;obtain ⟨b,rfl⟩:=XW hrng.2.1;have ha:a<i:=by have:=hrng.1.2; simp only at this; omega
     have hb:b<i:=by have:=hrng.2.2; simp only at this; omega
     change L.take (k+1)=L.take k++[((a:Int),(b:Int))] at hsn;change (A1c L)[k]? =some [.int .i64 (a:Int),.int .i64 (b:Int)] at e1;obtain ⟨rt2,dp2,t2⟩:=hT;have hM2:InN i (M++L.take k):=fun q hq=>by
      rcases XJ.1 hq with hq | hq
      ·exact hM q hq
      ·exact hL q (VQ hq)
     have tn:=t2.snoc (a:=a) (b:=b) hn hM2 ha hb;rw [Zk,<-hsn] at tn;have hJ:=A7R t2.tc.tf a b (by omega) (by omega) (H:=[.box (fC F2),.box [.int .i64 (a:Int),.int .i64 (b:Int)]]) (id:=0) rfl;have hcn:=t2.tc.conn a b (by omega) (by omega);have hcl2:=C4b i (Conn (M++L.take k));by_cases e:rt2 a=rt2 b
     ·have hs:=A37 (n:=i) (hcn.1 e);rw [Zk,<-hsn] at hs;rw [decide_eq_true e,VJ] at hJ;simp only [List.set_cons_succ,List.set_cons_zero,List.cons_append,List.nil_append] at hJ;refine zJ Qw9 (zc @hltI (zc @e1 (zc @A02 Qw9))) Qw9 (zc hJ Qw9) Qw9 ?_;refine ⟨(k+1,F2.set (rt2 a) (rt2 b)),Weak.headF 1 35 [4,7,22,23,24] (zc @hs Qw9) (zV @A0Z),?_,?_⟩
      ·exact ⟨hlt2,tn⟩
      ·simp only; omega
     ·have hs:=A2I (n:=i) ha hb (fun h=>e (hcn.2 h));rw [Zk,<-hsn] at hs;have hsI:((ncls i (Conn (M++L.take k)):Nat):Int)-1=((ncls i (Conn (M++L.take (k+1))):Nat):Int):=by omega
      rw [decide_eq_false e,Qq8] at hJ;simp only [List.set_cons_succ,List.set_cons_zero,List.cons_append,List.nil_append] at hJ;refine zJ Qw9 (zc @hltI (zc @e1 (zc @A02 (zc @hsI Qw9)))) Qw9 (zc hJ Qw9) Qw9 ?_;refine ⟨(k+1,F2.set (rt2 a) (rt2 b)),Weak.headN 1 35 [4,7,22,23,24] (zV @A0Z),?_,?_⟩
      ·exact ⟨hlt2,tn⟩
      ·simp only; omega
    ·have ek:k=L.length:=by omega
     subst ek;have hnl: ¬((L.length:Int)<L.length):=by omega
     rw [Zy];by_cases h1:ncls i (Conn (M++L))=1
     ·rw [decide_eq_true h1,h1];refine zR (zc @hnl Qw9) Qw9 Qw9 ?_;simp [A0y,A0x,Blk.cells,ty,Tryz.results128,A0s,A0t,toT,A0d,A0b,A0c,A0a,A0z]
     ·rw [decide_eq_false h1];have h1I: ¬((ncls i (Conn (M++L)):Nat):Int)=1:=by omega
      refine zR (zc @hnl (zc @h1I Qw9)) Qw9 Qw9 ?_;simp [A0y,A0x,Blk.cells,ty,Tryz.results128,A0s,A0t,toT,A0d,A0b,A0c,A0a,A0z]
theorem B94 (l:List Int) (hne:l≠[]) (hl:l.length<2^30):ACallX Tryz.prog 127 [] [ofT (A0m l)] (A0m l):=by
 have hrn:A0p l≠[]:=by simpa [A0p] using hne
 have hrl:(A0p l).length=l.length:=A0e l;have hrk: ∀r,r∈A0p l->r.length=1:=fun r hr=>A1p hr;have hrf: ∀r,r∈A0p l->A1g r=true:=fun r hr=>by obtain ⟨x,_,rfl⟩:=QJ.1 hr; rfl
 unfold A0m;generalize A0p l=rows at*;refine ACallX.of_body Tryz.func127 rfl (by kernel_rfl) (by simp [isMap]) ?_;simp only [entry,Tryz.ntmps127,ofT,A2T,A04,Xk,Zj,List.length_cons,List.length_nil,Nat.reduceAdd,Nat.reduceSub,List.replicate_succ,List.replicate_zero,List.cons_append,List.nil_append];refine FWp.of_awp ?_
 repeat' (first|((first|(refine zT ?_;intro K' hK')|(refine zG ?_ ?_<;>(try refine zH ?_)<;>intro hguard<;>(try exact zX)<;>try intro K' hK'))<;>((try simp+contextual only [go_sem,hrl,chunks,List.range,List.range.loop]);(repeat' first|(with_reducible refine hK' _ _ ?_;clear hK' K')|(exact hrn)|(with_reducible exact hrk _ (by assumption))|(exact .inr Qw7)|exact zY|with_reducible refine Qw8 ?_ ?_|(with_reducible intro hpath;try exact zP)|(refine hK' _ _ ?_;clear hK' K')|fail);try refine zS ?_))|(refine zE ?_;refine hK _ _ ?_;clear hK K)|(refine zN ?_;try refine zS ?_)|refine zA ?_|(refine zB ?_;intro K hK)|(refine zC ?_ ?_<;>(try refine zH ?_)<;>intro hcond<;>try exact zX)|fail)
 simp [C0G,B5R,Blk.cells,ty,Tryz.results127,A0s,A0t,toT,A6e,A0a,Tree.flat];exact hrf
theorem B6G:ACall Tryz.prog 127 [A0m []] (A0m []):=by
 refine ACall.of_body Tryz.func127 rfl (by kernel_rfl) ?_;simp only [entry,Tryz.ntmps127,A0m,A0p];refine zU ?_
 repeat' (first|((with_reducible refine AWp.seq (AWp.of_reg (id:=1) (AReg.pre 1 (fun K hK=>?_))));simp only [List.take_succ_cons,List.take_zero])|((with_reducible refine AWp.of_reg (id:=1) (AReg.pre 1 (fun K hK=>?_)));simp only [List.take_succ_cons,List.take_zero])|((first|(refine zT ?_;intro K' hK')|(refine zG ?_ ?_<;>(try refine zH ?_)<;>intro hguard<;>(try exact zX)<;>try intro K' hK'))<;>((try simp+contextual only [go_sem]);(repeat' first|(with_reducible refine hK' _ _ ?_;clear hK' K')|exact zY|with_reducible refine Qw8 ?_ ?_|(with_reducible intro hpath;try exact zP)|(refine hK' _ _ ?_;clear hK' K')|fail);try refine zS ?_))|(refine zE ?_;refine hK _ _ ?_;clear hK K)|(refine zN ?_;try refine zS ?_)|refine zA ?_|(refine zB ?_;intro K hK)|(refine zC ?_ ?_<;>(try refine zH ?_)<;>intro hcond<;>try exact zX)|fail)
 simp only [Zw,ZW];refine AReg.nilq (e:=3) false rfl rfl rfl (by simp only [ty]) rfl rfl (fun b=>AReg.rest (fun K hK=> ?_));cases b
 ·
  repeat' (first|((first|(refine zT ?_;intro K' hK')|(refine zG ?_ ?_<;>(try refine zH ?_)<;>intro hguard<;>(try exact zX)<;>try intro K' hK'))<;>((try simp+contextual only [go_sem,List.length_nil,chunks,List.range,List.range.loop,Zj]);(repeat' first|(with_reducible refine hK' _ _ ?_;clear hK' K')|(exact .inr Qw7)|(exact absurd Qw7 (by assumption))|exact zY|with_reducible refine Qw8 ?_ ?_|(with_reducible intro hpath;try exact zP)|(refine hK' _ _ ?_;clear hK' K')|fail);try refine zS ?_))|(refine zE ?_;refine hK _ _ ?_;clear hK K)|(refine zN ?_;try refine zS ?_)|refine zA ?_|(refine zB ?_;intro K hK)|(refine zC ?_ ?_<;>(try refine zH ?_)<;>intro hcond<;>try exact zX)|fail)
  simp [A0y,A0x,Blk.cells,ty,Tryz.results127,A0s,A0t,toT,A0d,A0b,A0c,A0a,A0m,A0p]
 ·
  repeat' (first|((first|(refine zT ?_;intro K' hK')|(refine zG ?_ ?_<;>(try refine zH ?_)<;>intro hguard<;>(try exact zX)<;>try intro K' hK'))<;>((try simp+contextual only [go_sem]);(repeat' first|(with_reducible refine hK' _ _ ?_;clear hK' K')|exact zY|with_reducible refine Qw8 ?_ ?_|(with_reducible intro hpath;try exact zP)|(refine hK' _ _ ?_;clear hK' K')|fail);try refine zS ?_))|(refine zE ?_;refine hK _ _ ?_;clear hK K)|(refine zN ?_;try refine zS ?_)|refine zA ?_|(refine zB ?_;intro K hK)|(refine zC ?_ ?_<;>(try refine zH ?_)<;>intro hcond<;>try exact zX)|fail)
  simp [A0y,A0x,Blk.cells,ty,Tryz.results127,A0s,A0t,toT,A0d,A0b,A0c,A0a,A0m,A0p]
theorem C6F:A1L Tryz.prog 158=some false:=by kernel_rfl
theorem C6G:A01 Tryz.prog 158=some 1:=by kernel_rfl
theorem C6H:A08 Tryz.prog 158=some .nilFunc:=by kernel_rfl
theorem C6I:A05 Tryz.prog 158=some 8:=by kernel_rfl
theorem C6J:A1L Tryz.prog 159=some false:=by kernel_rfl
theorem C6K:A01 Tryz.prog 159=some 1:=by kernel_rfl
theorem C6L:A08 Tryz.prog 159=some .nilFunc:=by kernel_rfl
theorem C6M:A05 Tryz.prog 159=some 8:=by kernel_rfl
attribute [go_sem] C6F C6G C6H C6I C6J C6K C6L C6M
def growCaps (n:Nat) (L:List (Int×Int)):List ACap:=[.tree (.rptr [.int .i64 (n:Int)]),.ptr 1 0,.tree (.rptr [.slice (A1c L)]),.ptr 2 0]
def A5S (T:List Nat):TVal:=A0m (T.map fun x:Nat=>(x:Int))
def nC (t:List Nat):List ACell:=t.map fun x:Nat=>ACell.int .i64 (x:Int)
theorem B2y (t:List Nat):(nC t).length=t.length:=by simp [nC]
theorem B1f (t:List Nat) (e:Nat):nC t++[.int .i64 (e:Int)]=nC (t++[e]):=by simp [nC]
structure GH (l n:Nat) (L:List (Int×Int)) (H1:List Blk):Prop where
 yld: ∀X:List Blk,(H1++X)[0]? =some (.box [.yld l])
 fn: ∀X:List Blk,(H1++X)[1]? =some (.box [.fn 126 (growCaps n L)])
 ok: ∀blk,blk∈H1->okBlk blk
 inn: ∀blk,blk∈H1->blkIn (H1.length+1) blk
 len:2≤H1.length
def GV (t:List Nat) (j cap:Nat) (H1:List Blk):Prop:=(cap=0∧t=[])∨(2≤j∧H1[j]? =some (.box (nC t++List.replicate (cap-t.length) .any)))
theorem B0s {n:Nat} {L:List (Int×Int)} {fuel:Nat} {t:List Nat} {e:Nat} (h:t.length+1=n):A17 n L fuel t e=[t]:=by
 cases fuel<;>(unfold A17; rw [if_pos h])
def GR (J:Nat->Sig->World->Prop) (Jx:Sig->World->Prop) (k:Nat) (H1:List Blk) (H':List Blk) (r:AVal):Prop:=
 ∃X,(r= .c (.bool true)∧H'= .ghost (J k)::(H1++X))∨(r= .c (.bool false)∧H'= .ghost Jx::(H1++X))
theorem okF {H1:List Blk} {F:List Nat} (h: ∀blk,blk∈H1->okBlk blk) (hf:F.length=12): ∀blk,blk∈H1++[.box (fC F)]->okBlk blk:=fun blk hb=>by
 rcases XJ.1 hb with hb | hb
 ·exact h blk hb
 ·rw [Zz] at hb; subst hb
  match F,hf with
  | x::F,_=>exact trivial
theorem A67 {m m':Nat} (hm:m≤m') {c:ACap} (h:B0D m c):B0D m' c:=by
 cases c with
 | tree t=>trivial
 | _=>exact ZY h hm
theorem B95 {m m':Nat} (hm:m≤m') {c:ACell} (h:A6d m c):A6d m' c:=by
 cases c with
 | slice rows tok=>cases tok with
  | chain i=>exact ZY h hm
  | tail i p=>exact ZY h hm
  | _=>trivial
 | bfn f caps=>exact fun x hx=>A67 hm (h x hx)
 | fn f caps=>exact fun x hx=>A67 hm (h x hx)
 | rows rs tok=>exact ⟨fun r hr x hx=>A67 hm (h.1 r hr x hx),by
   cases tok with
   | chain i=>exact ZY h.2 hm
   | tail i p=>exact ZY h.2 hm
   | _=>trivial⟩
 | rptrC cs=>exact fun x hx=>A67 hm (h x hx)
 | ptr _ _=>exact ZY h hm
 | ref _ _ _ _ _=>exact ZY h hm
 | vec _ _ _=>exact ZY h hm
 | map _=>exact ZY h hm
 | iter _=>exact ZY h hm
 | _=>trivial
theorem B5l {m m':Nat} (hm:m≤m') {b:Blk} (h:blkIn m b):blkIn m' b:=by
 cases b with
 | box cs=>exact fun c hc=>B95 hm (h c hc)
 | roC cs=>exact fun c hc=>A67 hm (h c hc)
 | iter i _ _=>exact ZY h hm
 | _=>trivial
@[simp] theorem C60 (B:Blk) (H1 X:List Blk):(H1++B::X).take (H1.length+1)=H1++[B]:=by
 rw [List.take_length_add_append]; rfl
theorem inF {l n:Nat} {L:List (Int×Int)} {H1:List Blk} (hG:GH l n L H1) (F:List Nat):A1s (H1.length+2) (H1++[.box (fC F)]):=fun b hb=>by
 rcases XJ.1 hb with hb | hb
 ·exact B5l (by omega) (hG.inn b hb)
 ·rw [Zz] at hb; subst hb; exact A0Z
theorem GH.app {l n:Nat} {L:List (Int×Int)} {H1 X:List Blk} (hG:GH l n L H1) (h1: ∀b,b∈X->okBlk b) (h2: ∀b,b∈X-> ∀m,blkIn m b):GH l n L (H1++X) where
 yld Y:=by rw [Zk]; exact hG.yld _
 fn Y:=by rw [Zk]; exact hG.fn _
 ok b hb:=by
  rcases XJ.1 hb with hb | hb
  ·exact hG.ok b hb
  ·exact h1 b hb
 inn b hb:=by
  rcases XJ.1 hb with hb | hb
  ·exact B5l (by rw [Xv]; omega) (hG.inn b hb)
  ·exact h2 b hb _
 len:=by have:=hG.len; rw [Xv]; omega
theorem GH.put {l n:Nat} {L:List (Int×Int)} {H1:List Blk} (hG:GH l n L H1) {j:Nat} (hj2:2≤j) {B:Blk} (h1:okBlk B) (h2: ∀m,blkIn m B):GH l n L (H1.set j B) where
 yld Y:=by
  have:=hG.yld Y;have hl:=hG.len;rw [Qv (by omega)] at this;rw [Qv (by rw [Yw]; omega),QX (by omega)]; exact this
 fn Y:=by
  have:=hG.fn Y;have hl:=hG.len;rw [Qv (by omega)] at this;rw [Qv (by rw [Yw]; omega),QX (by omega)]; exact this
 ok b hb:=by
  rcases List.mem_or_eq_of_mem_set hb with hb | rfl
  ·exact hG.ok b hb
  ·exact h1
 inn b hb:=by
  rcases List.mem_or_eq_of_mem_set hb with hb | rfl
  ·rw [Yw]; exact hG.inn b hb
  ·exact h2 _
 len:=by rw [Yw]; exact hG.len
theorem C4c {m:Nat} (t:List Nat) (k:Nat):blkIn m (.box (nC t++List.replicate k .any)):=fun c hc=>by
 rcases XJ.1 hc with hc | hc
 ·obtain ⟨x,_,rfl⟩:=QJ.1 hc; exact trivial
 ·rw [(Wq.1 hc).2]; exact trivial
theorem B96 {t:List Nat} (k:Nat) (h:t≠[]):okBlk (.box (nC t++List.replicate k .any)):=by
 cases t with
 | nil=>exact absurd rfl h
 | cons x t=>exact trivial
theorem B97 {t:List Nat} {a cap:Nat} (h:t.length<cap):(nC (t++[a])++List.replicate (cap-(t.length+1)) ACell.any).set t.length .any=nC t++List.replicate (cap-t.length) .any:=by
 rw [<-B1f,Zk,JV _ _ (by rw [B2y]; exact QQ _),B2y,JQ];congr 1;obtain ⟨d,hd⟩: ∃d,cap-t.length=d+1:=⟨cap-t.length-1,by omega⟩;rw [show cap-(t.length+1)=d by omega,hd,List.replicate_succ]; rfl
theorem B5m {H1 X:List Blk} {G B C:Blk} {j:Nat} (hj:H1[j]? =some C):(G::(H1.set j B++X)).set (j+1) C=G::(H1++X):=by
 have hl:=(Qx.1 hj).1;rw [List.set_cons_succ,Qq7 _ _ (by rw [Yw]; exact hl),List.set_set];congr 2;apply Zx;intro i;by_cases e:j=i
 ·subst e; rw [QW hl,hj]
 ·rw [QX e]
theorem B6H {n:Nat} {L:List (Int×Int)} {t:List Nat} {a:Nat} (ha:a<L.length) (h: ¬t.length+1=n):A17 n L (L.length-a) t a=(open Classical in if A4t (pkN L (t++[a])) then A17 n L (L.length-(a+1)) (t++[a]) (a+1) else [])++A17 n L (L.length-(a+1)) t (a+1):=by
 rw [show L.length-a=(L.length-(a+1))+1 by omega,A17,if_neg h]
theorem C4d (t:List Nat) (X:List ACell):(nC t++X).take t.length=nC t:=by
 rw [<-B2y t,List.take_left]
theorem B4c (ts:List Tree):(ts.map fun t=>[t]).flatten=ts:=by
 induction ts with
 | nil=>rfl
 | cons t ts ih=>simp only [Xk,List.flatten_cons,List.singleton_append,ih]
theorem B6I (ts:List Tree):chunks 1 ts.length ts=ts.map fun t=>[t]:=by
 have h:=Go.Sp.chunks_flatten (k:=1) (rows:=ts.map fun t=>[t]) (fun r hr=>by obtain ⟨t,_,rfl⟩:=QJ.1 hr; rfl);rw [Zq,B4c] at h;exact h
theorem C1X (t:List Nat):(nC t).mapM A0a=some (t.map fun x:Nat=>Tree.int .i64 (x:Int)):=by
 induction t with
 | nil=>rfl
 | cons x t ih=>unfold nC at ih ⊢; simp [JX,A0a,ih]
theorem C4e {H:List Blk} {j:Nat} {t:List Nat} {X:List ACell} (hj:H[j]? =some (.box (nC t++X))):A0b H (.ref j 1 0 t.length t.length)=some (.slice (A0p (t.map fun x:Nat=>(x:Int)))):=by
 simp only [A0b,hj,Blk.cells,Option.bind_some,QQ,true_and,ZW,Yj,Xy,C4d,C1X,Option.map_some];rw [if_pos (by simp [B2y])];have h:=B6I (t.map fun x:Nat=>Tree.int .i64 (x:Int));rw [Zq] at h;rw [h];simp [A0p]
theorem B4d {n:Nat} (h:1≤n):(List.range n).filter (fun h=>decide (h=0))=[0]:=by
 obtain ⟨k,rfl⟩: ∃k,n=k+1:=⟨n-1,by omega⟩;rw [Qj3,Qw1,if_pos (by simp)];rw [List.filter_eq_nil_iff.2];intro a ha;obtain ⟨b,_,rfl⟩:=QJ.1 ha;simp
open Classical in
theorem B2z {g:G} {n:Nat} (hc:checkG g=0) (hn:g.n=n):connB g=true↔ ∀u w,u<n->w<n->Conn (endsL g.es) u w:=by
 have h12:=(A0h.1 hc).1;rw [A2O hc hn,decide_eq_true_eq];constructor
 ·intro h u w hu hw;exact A63 (A5t n (endsL g.es)) h hu hw
 ·intro h;unfold ncls;have e:(List.range n).filter (fun x=>decide (∀y,y<n->Conn (endsL g.es) x y->x≤y))=(List.range n).filter (fun h=>decide (h=0)):=Qj9 fun x hx=>by
   refine decide_eq_decide.2 ⟨fun hx2=> ?_,fun hx2=> ?_⟩
   ·have:=hx2 0 (by omega) (h x 0 (XQ.1 hx) (by omega));omega
   ·subst hx2; intro y _ _; omega
  rw [e,B4d (by omega)]; rfl
structure IndS (g:G) (n:Nat) (l:List Int) (R:List Bool):Prop where
 c:checkG g=0
 n':g.n=n
 r: ∀x,x∈l->0≤x∧x<n
 m: ∀v,v<n->(R.getD v false=true↔(v:Int)∈l)
section
variable {g:G} {n:Nat} {l:List Int} {R:List Bool}
end
end Go.Proofs.YtdbdfkohpjefjaaGreat
