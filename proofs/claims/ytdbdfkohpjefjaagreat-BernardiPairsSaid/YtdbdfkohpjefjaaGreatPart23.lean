/- A part of the proof. -/
import Derived.Test.YtdbdfkohpjefjaaGreatPart19
import Derived.Test.YtdbdfkohpjefjaaGreatPart20
import Derived.Test.YtdbdfkohpjefjaaGreatPart18
set_option linter.all false
set_option maxHeartbeats 4000000
set_option maxRecDepth 100000
namespace Go.Proofs.YtdbdfkohpjefjaaGreat
open Go.Sp
def C5c (L:List (Int×Int)) (T:List Nat):(pkN L T).length=T.length:=by simp [pkN]
def B4J (L:List (Int×Int)) (A B:List Nat):pkN L (A++B)=pkN L A++pkN L B:=by simp [pkN]
variable {L:List (Int×Int)}
def C0w {n:Nat} {T:List Nat} (hL:InN n L) (ht: ∀x,x∈T->x<L.length):InN n (pkN L T):=fun p hp=>by
 obtain ⟨x,hx,rfl⟩:=QJ.1 hp;rw [Qz,Qq (ht x hx)];exact hL _ (Xk _)
open Classical in
noncomputable def A1A (n:Nat) (L:List (Int×Int)):Nat->List Nat->Nat->List (List Nat)
 | 0,t,_=>if t.length+1=n then [t] else []
 | k+1,t,e=>if t.length+1=n then [t] else (if acyc (pkN L (t++[e])) then A1A n L k (t++[e]) (e+1) else [])++A1A n L k t (e+1)
def A4b {n:Nat}: ∀{k:Nat} {t:List Nat} {e:Nat} {T:List Nat},acyc (pkN L t)->
  (T∈A1A n L k t e↔ ∃s,T=t++s∧s.Pairwise (·< ·)∧(∀x,x∈s->e≤x∧x<e+k)∧T.length+1=n∧acyc (pkN L T)):=by
 intro k
 induction k with
 | zero=>
  intro t e T ha;unfold A1A;constructor
  ·intro h;split at h
   ·rename_i hl;rw [Zq] at h;subst h;exact ⟨[],by simp,.nil,by simp,hl,ha⟩
   ·cases h
  ·rintro ⟨s,rfl,_,h2,h3,_⟩;have:s=[]:=by
    cases s with
    | nil=>rfl
    | cons x s=>have:=h2 x (by simp); omega
   subst this;rw [WZ] at h3 ⊢;rw [if_pos h3]; simp
 | succ k ih=>
  intro t e T ha;unfold A1A;by_cases hl:t.length+1=n
  ·rw [if_pos hl,Zq];constructor
   ·rintro rfl;exact ⟨[],by simp,.nil,by simp,hl,ha⟩
   ·rintro ⟨s,rfl,_,_,h3,_⟩;have:s.length=0:=by rw [Xv] at h3; omega
    rw [Yx.1 this,WZ]
  ·rw [if_neg hl,XY,ih ha];constructor
   ·rintro (h | ⟨s,h1,h2,h3,h4,h5⟩)
    ·split at h
     ·rename_i hc;obtain ⟨s,h1,h2,h3,h4,h5⟩:=(ih hc).1 h;refine ⟨e::s,by rw [h1]; simp,Wz.2 ⟨fun x hx=>by have:=(h3 x hx).1; omega,h2⟩,fun x hx=> ?_,h4,h5⟩;rcases Qw.1 hx with rfl | hx
      ·omega
      ·have:=h3 x hx; omega
     ·cases h
    ·exact ⟨s,h1,h2,fun x hx=>by have:=h3 x hx; omega,h4,h5⟩
   ·rintro ⟨s,rfl,h2,h3,h4,h5⟩;cases s with
    | nil=>exact absurd (by simpa using h4) hl
    | cons x s=>
     by_cases hx:x=e
     ·subst hx;left;have hc:acyc (pkN L (t++[x])):=by
       rw [show t++x::s=(t++[x])++s by simp,B4J] at h5;exact B5I h5
      rw [if_pos hc];refine (ih hc).2 ⟨s,by simp,(Wz.1 h2).2,fun y hy=> ?_,h4,h5⟩;have:=(Wz.1 h2).1 y hy;have:=h3 y (by simp [hy]);omega
     ·right;refine ⟨x::s,rfl,h2,fun y hy=> ?_,h4,h5⟩;have h6:=h3 x (by simp);have h7:=h3 y hy;rcases Qw.1 hy with rfl | hy
      ·omega
      ·have:=(Wz.1 h2).1 y hy; omega
def A6c {n:Nat}: ∀{k:Nat} {t:List Nat} {e:Nat},acyc (pkN L t)->(A1A n L k t e).Nodup:=by
 intro k
 induction k with
 | zero=>intro t e _; unfold A1A; split<;>simp
 | succ k ih=>
  intro t e ha;unfold A1A;split
  ·simp
  ·refine Wj.2 ⟨?_,ih ha,fun A hA B hB=> ?_⟩
   ·split
    ·rename_i hc; exact ih hc
    ·simp
   ·rintro rfl;split at hA
    ·rename_i hc;obtain ⟨s,h1,_⟩:=(A4b hc).1 hA;obtain ⟨s',h2,_,h3,_⟩:=(A4b ha).1 hB;rw [h1,Zk] at h2;have h4:=List.append_cancel_left h2;have:=h3 e (by rw [<-h4]; simp);omega
    ·cases hA
def B7v {n:Nat} {R:Nat->Nat->Prop} (h0:0<n) (h: ∀x y,x<n->y<n->R x y):ncls n R=1:=by
 rw [A2u (S:=fun x y=>(fun _:Nat=>0) x=(fun _:Nat=>0) y) fun x y hx hy=>⟨fun _=>rfl,fun _=>h x y hx hy⟩];exact A93 _ (fun x _=>by omega) fun v hv=>⟨0,h0,by omega⟩
def C0x {n:Nat} (h0:0<n) (hL:InN n L) {k:Nat} {t:List Nat} {e:Nat} (ha:acyc (pkN L t)) (ht: ∀x,x∈t->x<L.length) (he:e+k=L.length)
  (hn:ncls n (Conn (pkN L t++L.drop e))≠1):A1A n L k t e=[]:=by
 refine List.eq_nil_iff_forall_not_mem.2 fun T hT=>hn ?_;obtain ⟨s,rfl,h2,h3,h4,h5⟩:=(A4b ha).1 hT;have hin: ∀x,x∈t++s->x<L.length:=fun x hx=>by
  rcases XY.1 hx with hx | hx
  ·exact ht x hx
  ·have:=h3 x hx; omega
 have h6:=(A4u (n:=n) (pkN L (t++s)) (C0w hL hin)).2.1 h5;rw [C5c] at h6;have h7:ncls n (Conn (pkN L (t++s)))=1:=by omega
 refine B7v h0 fun x y hx hy=> ?_;refine B18 (l:=pkN L (t++s)) (fun u w hu=> .inl ?_) (A6H (A54 n _) h7 hx hy);rw [B4J] at hu;rcases XY.1 hu with hu | hu
 ·exact Qw4 _ hu
 ·refine List.mem_append_right _ ?_;obtain ⟨i,hi,hp⟩:=QJ.1 hu;have hb:=h3 i hi;rw [Qz,Qq (show i<L.length by omega),Option.getD_some] at hp;rw [<-hp];refine Zj.2 ⟨i-e,?_⟩;rw [YX,show e+(i-e)=i by omega];exact Qq _
def cntF (n:Nat) (F:List Nat):Nat:=((List.range n).filter fun v=>decide (F[v]? =some v)).length
structure TD (n:Nat) (M:List (Int×Int)) (F:List Nat) (rt dp:Nat->Nat):Prop where
 tc:TC M F rt dp
 lt: ∀v,v<n->rt v<n
 cnt:cntF n F=ncls n (Conn M)
def TDe (n:Nat) (M:List (Int×Int)) (F:List Nat):Prop:= ∃rt dp,TD n M F rt dp
variable {M:List (Int×Int)}
def C5d {n:Nat} (hM:InN n M) {u w:Nat} (h:Conn M u w) (hu:u<n):w<n:=by
 induction h with
 | refl=>exact hu
 | step _ hs _=>
  rcases hs with hs | hs
  ·have:=(hM _ hs).2.2; simp only at this; omega
  ·have:=(hM _ hs).1.2; simp only at this; omega
variable {F:List Nat}
def TD.of {n:Nat} {rt dp:Nat->Nat} (tc:TC M F rt dp) (hn:n≤12) (hM:InN n M) (hc:cntF n F=ncls n (Conn M)):TD n M F rt dp:=
 ⟨tc,fun v hv=>C5d hM ((tc.conn v (rt v) (by omega) (tc.tf.rlt v (by omega))).1 (tc.tf.idem (by omega)).symm) hv,hc⟩
def TDe.of {n:Nat} (tc:TCe M F) (hn:n≤12) (hM:InN n M) (hc:cntF n F=ncls n (Conn M)):TDe n M F:=by
 obtain ⟨rt,dp,tc⟩:=tc;exact ⟨rt,dp,TD.of tc hn hM hc⟩
def TDe.zero (n:Nat) (hn:n≤12):TDe n [] (List.range 12):=by
 refine TDe.of TCe.zero hn (fun p hp=>by simp at hp) ?_;rw [A4t];unfold cntF
 rw [List.filter_eq_self.2 (fun v hv=>by
  have:v<12:=by have:=Xy.1 hv; omega
  simp [this]),Vk]
def TD.snoc {n:Nat} {rt dp:Nat->Nat} (h:TD n M F rt dp) {a b:Nat} (hn:n≤12) (hM:InN n M) (ha:a<n) (hb:b<n):
  TDe n (M++[((a:Int),(b:Int))]) (F.set (rt a) (rt b)):=by
 refine TDe.of (h.tc.snoc (by omega) (by omega)) hn (fun p hp=> ?_) ?_
 ·rcases XY.1 hp with hp | hp
  ·exact hM p hp
  ·rw [Zq] at hp; subst hp; simp only; omega
 ·have hcn:=h.tc.conn a b (by omega) (by omega);by_cases e:rt a=rt b
  ·rw [h.tc.tf.stay (by omega) e,A3F (hcn.1 e)];exact h.cnt
  ·have h1:=A2P (n:=n) ha hb (fun h=>e (hcn.2 h));have hfa:=h.tc.tf.fix a (by omega);have hla:=h.lt a ha
   have h2:=A7I (l:=List.range n) (p:=fun v=>decide (F[v]? =some v)) (q:=fun v=>decide ((F.set (rt a) (rt b))[v]? =some v)) (m:=rt a) Qq8 (Xy.2 hla) (by simp [hfa]) (fun x hx=>by
    by_cases hxa:x=rt a
    ·subst hxa;rw [QZ (by rw [h.tc.tf.len]; omega)];simp [Ne.symm e]
    ·rw [QX (Ne.symm hxa)]
     simp [hxa])
   have h3:=h.cnt;unfold cntF at h3 ⊢;omega
def C2T {F:List Nat} {i:Nat}:cntF (i+1) F=cntF i F+(if F[i]? =some i then 1 else 0):=by
 unfold cntF;rw [WX,JV,Xv];by_cases h:F[i]? =some i
 ·rw [if_pos h]; simp [h]
 ·rw [if_neg h]; simp [h]
def cnt_le (F:List Nat) (i:Nat):cntF i F≤i:=Yj (Jw _ _) (by simp)
def C5e (n:Nat) (R:Nat->Nat->Prop):ncls n R≤n:=Yj (Jw _ _) (by simp)
def B4K (n:Nat) (hn:n≤12) (M L:List (Int×Int)) (F:List Nat) (hF:TDe n M F) (hM:InN n M) (hL:InN n L) (hl:L.length<2^40):
  ACall Tryz.prog 128 [A0n n,tF F,A0E L] (A0x (decide (ncls n (Conn (M++L))=1))):=by
 obtain ⟨rt,dp,td⟩:=hF;have hlen:=td.tc.tf.len;have hof:(fT F).map A02=fC F:=B6V F;refine ACall.of_body Tryz.func128 rfl (by kernel_rfl) ?_;simp only [entry,Tryz.ntmps128,A0n,A0E,tF];refine zU ?_;refine zR (zc @hof Qv6) Qv6 Qv6 ?_;refine AWp.loopS (α:=Nat) 35 (fun i=>[(2,.c (.slice (A1g L) .none)),(4,.c (.ptr 0 0)),(7,.c (.int .i64 (cntF i F:Nat))),(11,.c (.int .i64 (n:Int))),(12,.c (.int .i64 (i:Int)))]) (fun i=>[.box (fC F)]) (fun i=>i≤n) (fun i=>n-i) (0) (hk:=Weak.headL 1 35 [2,4,7,11,12] (zV @A1c)) (h0:=?_) (round:=fun i hI=>?_)
 ·exact Xw _
 ·by_cases hlt:i<n
  ·have hltI:(i:Int)<n:=by omega
   have hR:=A73 td.tc.tf i (by omega) (H:=[.box (fC F)]) (id:=0) rfl;have hs:=C2T (F:=F) (i:=i);have hcl:=cnt_le F i;by_cases e:rt i=i
   ·have hfx:=td.tc.tf.fix i (by omega);rw [e] at hfx hR;rw [if_pos hfx] at hs;refine zJ Qv6 (zc @hltI Qv6) Qv6 (zc hR Qv6) Qv6 ?_;refine ⟨i+1,Weak.headF 1 35 [2,4,7,11,12] (zc @hs Qv6) (zV @A1c),?_,?_⟩
    ·exact hlt
    ·omega
   ·have hfx: ¬F[i]? =some i:=fun h=>by
     have hil:i<F.length:=by omega
     rw [Qq hil] at h;exact e (td.tc.tf.self i hil (by simpa using h))
    rw [if_neg hfx,Nat.add_zero] at hs;have eI: ¬((rt i:Nat):Int)=i:=by omega
    refine zJ Qv6 (zc @hltI (zc @eI Qv6)) Qv6 (zc hR Qv6) Qv6 ?_;refine ⟨i+1,Weak.headN 1 35 [2,4,7,11,12] (zV @A1c),?_,?_⟩
    ·exact hlt
    ·omega
  ·have ei:i=n:=by omega
   subst ei;have hnl: ¬((i:Int)<i):=by omega
   rw [td.cnt];refine zR (zc @hnl (zc @A08 Qv6)) Qv6 Qv6 ?_;refine AWp.loopS (α:=(Nat×List Nat)) 35 (fun s=>[(4,.c (.ptr 0 0)),(7,.c (.int .i64 (ncls i (Conn (M++L.take s.1)):Nat))),(22,.c (.slice (A1g L) .none)),(23,.c (.int .i64 (L.length:Int))),(24,.c (.int .i64 (s.1:Int)))]) (fun s=>[.box (fC s.2)]) (fun s=>s.1≤L.length∧TDe i (M++L.take s.1) s.2) (fun s=>L.length-s.1) ((0,F)) (hk:=Weak.headL 1 35 [4,7,22,23,24] (zV @A1c)) (h0:=?_) (round:=fun s hI=>?_)
   ·exact ⟨Xw _,by simpa using ⟨rt,dp,td⟩⟩
   ·obtain ⟨k,F2⟩:=s;obtain ⟨hk,hT⟩:=hI;simp only at hk hT ⊢;by_cases hlt2:k<L.length
    ·have hltI:(k:Int)<L.length:=by omega
     have e0:=Qq hlt2;have e1:=A27 e0;have hsn:=take_snoc e0;have hrng:=hL _ (Xk hlt2);generalize L[k]=p at*;obtain ⟨pa,pb⟩:=p;obtain ⟨a,rfl⟩:=XV hrng.1.1;obtain ⟨b,rfl⟩:=XV hrng.2.1;have ha:a<i:=by have:=hrng.1.2; simp only at this; omega
     have hb:b<i:=by have:=hrng.2.2; simp only at this; omega
     change L.take (k+1)=L.take k++[((a:Int),(b:Int))] at hsn;change (A1g L)[k]? =some [.int .i64 (a:Int),.int .i64 (b:Int)] at e1;obtain ⟨rt2,dp2,t2⟩:=hT;have hM2:InN i (M++L.take k):=fun q hq=>by
      rcases XY.1 hq with hq | hq
      ·exact hM q hq
      ·exact hL q (Vy hq)
     have tn:=t2.snoc (a:=a) (b:=b) hn hM2 ha hb;rw [Zk,<-hsn] at tn;have hJ:=A8p t2.tc.tf a b (by omega) (by omega) (H:=[.box (fC F2),.box [.int .i64 (a:Int),.int .i64 (b:Int)]]) (id:=0) rfl;have hcn:=t2.tc.conn a b (by omega) (by omega);have hcl2:=C5e i (Conn (M++L.take k));by_cases e:rt2 a=rt2 b
     ·have hs:=A3F (n:=i) (hcn.1 e);rw [Zk,<-hsn] at hs;rw [decide_eq_true e,VJ] at hJ;simp only [List.set_cons_succ,List.set_cons_zero,List.cons_append,List.nil_append] at hJ;refine zJ Qv6 (zc @hltI (zc @e1 (zc @A08 Qv6))) Qv6 (zc hJ Qv6) Qv6 ?_;refine ⟨(k+1,F2.set (rt2 a) (rt2 b)),Weak.headF 1 35 [4,7,22,23,24] (zc @hs Qv6) (zV @A1c),?_,?_⟩
      ·exact ⟨hlt2,tn⟩
      ·simp only; omega
     ·have hs:=A2P (n:=i) ha hb (fun h=>e (hcn.2 h));rw [Zk,<-hsn] at hs;have hsI:((ncls i (Conn (M++L.take k)):Nat):Int)-1=((ncls i (Conn (M++L.take (k+1))):Nat):Int):=by omega
      rw [decide_eq_false e,Qx3] at hJ;simp only [List.set_cons_succ,List.set_cons_zero,List.cons_append,List.nil_append] at hJ;refine zJ Qv6 (zc @hltI (zc @e1 (zc @A08 (zc @hsI Qv6)))) Qv6 (zc hJ Qv6) Qv6 ?_;refine ⟨(k+1,F2.set (rt2 a) (rt2 b)),Weak.headN 1 35 [4,7,22,23,24] (zV @A1c),?_,?_⟩
      ·exact ⟨hlt2,tn⟩
      ·simp only; omega
    ·have ek:k=L.length:=by omega
     subst ek;have hnl: ¬((L.length:Int)<L.length):=by omega
     rw [Zy];by_cases h1:ncls i (Conn (M++L))=1
     ·rw [decide_eq_true h1,h1];refine zR (zc @hnl Qv6) Qv6 Qv6 ?_;simp [A00,A0z,Blk.cells,ty,Tryz.results128,A0v,A0w,toT,A0d,A0b,A0c,A0a,A0x]
     ·rw [decide_eq_false h1];have h1I: ¬((ncls i (Conn (M++L)):Nat):Int)=1:=by omega
      refine zR (zc @hnl (zc @h1I Qv6)) Qv6 Qv6 ?_;simp [A00,A0z,Blk.cells,ty,Tryz.results128,A0v,A0w,toT,A0d,A0b,A0c,A0a,A0x]
def C0y (l:List Int) (hne:l≠[]) (hl:l.length<2^30):ACallX Tryz.prog 127 [] [ofT (A0q l)] (A0q l):=by
 have hrn:A0p l≠[]:=by simpa [A0p] using hne
 have hrl:(A0p l).length=l.length:=A0e l;have hrk: ∀r,r∈A0p l->r.length=1:=fun r hr=>A1v hr;have hrf: ∀r,r∈A0p l->A1j r=true:=fun r hr=>by obtain ⟨x,_,rfl⟩:=QJ.1 hr; rfl
 unfold A0q;generalize A0p l=rows at*;refine ACallX.of_body Tryz.func127 rfl (by kernel_rfl) (by simp [isMap]) ?_;simp only [entry,Tryz.ntmps127,ofT,A3u,A02,XQ,ZX,List.length_cons,List.length_nil,Nat.reduceAdd,Nat.reduceSub,List.replicate_succ,List.replicate_zero,List.cons_append,List.nil_append];refine FWp.of_awp ?_;refine zMc Qv6 (zc @hrl Qv6) Qv6 Qv6 (zc hrn (zc @hrk Qv6)) (ed fun hp hpc=>?_);simp [C16,B67,Blk.cells,ty,Tryz.results127,A0v,A0w,toT,A6p,A0a,Tree.flat];exact hrf
def B7w:ACall Tryz.prog 127 [A0q []] (A0q []):=by
 refine ACall.of_body Tryz.func127 rfl (by kernel_rfl) ?_;simp only [entry,Tryz.ntmps127,A0q,A0p];refine zU ?_;refine zM (zc Qv6 (prt 1 1)) Qv6 Qv6 Qv6 Qv6 (ed fun hp hpc=>?_);simp only [Zw,ZY];refine AReg.nilq (e:=3) false rfl rfl rfl (by simp only [ty]) rfl rfl (fun b=>AReg.rest (fun K hK=> ?_));cases b
 ·
  refine zMc trivial trivial trivial trivial trivial (ed fun hp hpc=>?_);simp [A00,A0z,Blk.cells,ty,Tryz.results127,A0v,A0w,toT,A0d,A0b,A0c,A0a,A0q,A0p]
 ·
  refine zM trivial trivial trivial trivial trivial (ed fun hp hpc=>?_);simp [A00,A0z,Blk.cells,ty,Tryz.results127,A0v,A0w,toT,A0d,A0b,A0c,A0a,A0q,A0p]
def C7K:A1O Tryz.prog 158=some false:=by kernel_rfl
def C7L:A01 Tryz.prog 158=some 1:=by kernel_rfl
def C7M:A09 Tryz.prog 158=some .nilFunc:=by kernel_rfl
def C7N:A04 Tryz.prog 158=some 8:=by kernel_rfl
def C7O:A1O Tryz.prog 159=some false:=by kernel_rfl
def C7P:A01 Tryz.prog 159=some 1:=by kernel_rfl
def C7Q:A09 Tryz.prog 159=some .nilFunc:=by kernel_rfl
def C7R:A04 Tryz.prog 159=some 8:=by kernel_rfl
attribute [go_sem] C7K C7L C7M C7N C7O C7P C7Q C7R
def growCaps (n:Nat) (L:List (Int×Int)):List ACap:=[.tree (.rptr [.int .i64 (n:Int)]),.ptr 1 0,.tree (.rptr [.slice (A1g L)]),.ptr 2 0]
def A6d (T:List Nat):TVal:=A0q (T.map fun x:Nat=>(x:Int))
def nC (t:List Nat):List ACell:=t.map fun x:Nat=>ACell.int .i64 (x:Int)
def B3p (t:List Nat):(nC t).length=t.length:=by simp [nC]
def B1J (t:List Nat) (e:Nat):nC t++[.int .i64 (e:Int)]=nC (t++[e]):=by simp [nC]
structure GH (l n:Nat) (L:List (Int×Int)) (H1:List Blk):Prop where
 yld: ∀X:List Blk,(H1++X)[0]? =some (.box [.yld l])
 fn: ∀X:List Blk,(H1++X)[1]? =some (.box [.fn 126 (growCaps n L)])
 ok: ∀blk,blk∈H1->okBlk blk
 inn: ∀blk,blk∈H1->blkIn (H1.length+1) blk
 len:2≤H1.length
def GV (t:List Nat) (j cap:Nat) (H1:List Blk):Prop:=(cap=0∧t=[])∨(2≤j∧H1[j]? =some (.box (nC t++List.replicate (cap-t.length) .any)))
def B0O {n:Nat} {L:List (Int×Int)} {fuel:Nat} {t:List Nat} {e:Nat} (h:t.length+1=n):A1A n L fuel t e=[t]:=by
 cases fuel<;>(unfold A1A; rw [if_pos h])
def GR (J:Nat->Sig->World->Prop) (Jx:Sig->World->Prop) (k:Nat) (H1:List Blk) (H':List Blk) (r:AVal):Prop:=
 ∃X,(r= .c (.bool true)∧H'= .ghost (J k)::(H1++X))∨(r= .c (.bool false)∧H'= .ghost Jx::(H1++X))
def okF {H1:List Blk} {F:List Nat} (h: ∀blk,blk∈H1->okBlk blk) (hf:F.length=12): ∀blk,blk∈H1++[.box (fC F)]->okBlk blk:=fun blk hb=>by
 rcases XY.1 hb with hb | hb
 ·exact h blk hb
 ·rw [Zq] at hb; subst hb
  match F,hf with
  | x::F,_=>exact trivial
def A6O {m m':Nat} (hm:m≤m') {c:ACap} (h:B1k m c):B1k m' c:=by
 cases c with
 | tree t=>trivial
 | _=>exact ZW h hm
def C0z {m m':Nat} (hm:m≤m') {c:ACell} (h:A6o m c):A6o m' c:=by
 cases c with
 | slice rows tok=>cases tok with
  | chain i=>exact ZW h hm
  | tail i p=>exact ZW h hm
  | _=>trivial
 | bfn f caps=>exact fun x hx=>A6O hm (h x hx)
 | fn f caps=>exact fun x hx=>A6O hm (h x hx)
 | rows rs tok=>exact ⟨fun r hr x hx=>A6O hm (h.1 r hr x hx),by
   cases tok with
   | chain i=>exact ZW h.2 hm
   | tail i p=>exact ZW h.2 hm
   | _=>trivial⟩
 | rptrC cs=>exact fun x hx=>A6O hm (h x hx)
 | ptr _ _=>exact ZW h hm
 | ref _ _ _ _ _=>exact ZW h hm
 | vec _ _ _=>exact ZW h hm
 | map _=>exact ZW h hm
 | iter _=>exact ZW h hm
 | _=>trivial
def B5Z {m m':Nat} (hm:m≤m') {b:Blk} (h:blkIn m b):blkIn m' b:=by
 cases b with
 | box cs=>exact fun c hc=>C0z hm (h c hc)
 | roC cs=>exact fun c hc=>A6O hm (h c hc)
 | iter i _ _=>exact ZW h hm
 | _=>trivial
@[simp] theorem C75 (B:Blk) (H1 X:List Blk):(H1++B::X).take (H1.length+1)=H1++[B]:=by
 rw [List.take_length_add_append]; rfl
def inF {l n:Nat} {H1:List Blk} (hG:GH l n L H1) (F:List Nat):A1y (H1.length+2) (H1++[.box (fC F)]):=fun b hb=>by
 rcases XY.1 hb with hb | hb
 ·exact B5Z (by omega) (hG.inn b hb)
 ·rw [Zq] at hb; subst hb; exact A1c
def GH.app {l n:Nat} {H1 X:List Blk} (hG:GH l n L H1) (h1: ∀b,b∈X->okBlk b) (h2: ∀b,b∈X-> ∀m,blkIn m b):GH l n L (H1++X) where
 yld Y:=by rw [Zk]; exact hG.yld _
 fn Y:=by rw [Zk]; exact hG.fn _
 ok b hb:=by
  rcases XY.1 hb with hb | hb
  ·exact hG.ok b hb
  ·exact h1 b hb
 inn b hb:=by
  rcases XY.1 hb with hb | hb
  ·exact B5Z (by rw [Xv]; omega) (hG.inn b hb)
  ·exact h2 b hb _
 len:=by have:=hG.len; rw [Xv]; omega
def GH.put {l n:Nat} {H1:List Blk} (hG:GH l n L H1) {j:Nat} (hj2:2≤j) {B:Blk} (h1:okBlk B) (h2: ∀m,blkIn m B):GH l n L (H1.set j B) where
 yld Y:=by
  have:=hG.yld Y;have hl:=hG.len;rw [Qk (by omega)] at this;rw [Qk (by rw [Yw]; omega),QX (by omega)]; exact this
 fn Y:=by
  have:=hG.fn Y;have hl:=hG.len;rw [Qk (by omega)] at this;rw [Qk (by rw [Yw]; omega),QX (by omega)]; exact this
 ok b hb:=by
  rcases List.mem_or_eq_of_mem_set hb with hb | rfl
  ·exact hG.ok b hb
  ·exact h1
 inn b hb:=by
  rcases List.mem_or_eq_of_mem_set hb with hb | rfl
  ·rw [Yw]; exact hG.inn b hb
  ·exact h2 _
 len:=by rw [Yw]; exact hG.len
def C5f {m:Nat} (t:List Nat) (k:Nat):blkIn m (.box (nC t++List.replicate k .any)):=fun c hc=>by
 rcases XY.1 hc with hc | hc
 ·obtain ⟨x,_,rfl⟩:=QJ.1 hc; exact trivial
 ·rw [(YY.1 hc).2]; exact trivial
def C00 {t:List Nat} (k:Nat) (h:t≠[]):okBlk (.box (nC t++List.replicate k .any)):=by
 cases t with
 | nil=>exact absurd rfl h
 | cons x t=>exact trivial
def C01 {t:List Nat} {a cap:Nat} (h:t.length<cap):(nC (t++[a])++List.replicate (cap-(t.length+1)) ACell.any).set t.length .any=nC t++List.replicate (cap-t.length) .any:=by
 rw [<-B1J,Zk,Vq _ _ (by rw [B3p]; exact QQ _),B3p,Jz];congr 1;obtain ⟨d,hd⟩: ∃d,cap-t.length=d+1:=⟨cap-t.length-1,by omega⟩;rw [show cap-(t.length+1)=d by omega,hd,List.replicate_succ]; rfl
def B6a {H1 X:List Blk} {G B C:Blk} {j:Nat} (hj:H1[j]? =some C):(G::(H1.set j B++X)).set (j+1) C=G::(H1++X):=by
 have hl:=(Qx.1 hj).1;rw [List.set_cons_succ,Qx2 _ _ (by rw [Yw]; exact hl),List.set_set];congr 2;apply Zx;intro i;by_cases e:j=i
 ·subst e; rw [QZ hl,hj]
 ·rw [QX e]
def B7x {n:Nat} {t:List Nat} {a:Nat} (ha:a<L.length) (h: ¬t.length+1=n):A1A n L (L.length-a) t a=(open Classical in if acyc (pkN L (t++[a])) then A1A n L (L.length-(a+1)) (t++[a]) (a+1) else [])++A1A n L (L.length-(a+1)) t (a+1):=by
 rw [show L.length-a=(L.length-(a+1))+1 by omega,A1A,if_neg h]
def C5g (t:List Nat) (X:List ACell):(nC t++X).take t.length=nC t:=by
 rw [<-B3p t,List.take_left]
def B4L (ts:List Tree):(ts.map fun t=>[t]).flatten=ts:=by
 induction ts with
 | nil=>rfl
 | cons t ts ih=>simp only [XQ,List.flatten_cons,List.singleton_append,ih]
def B7y (ts:List Tree):chunks 1 ts.length ts=ts.map fun t=>[t]:=by
 have h:=Go.Sp.chunks_flatten (k:=1) (rows:=ts.map fun t=>[t]) (fun r hr=>by obtain ⟨t,_,rfl⟩:=QJ.1 hr; rfl);rw [XW,B4L] at h;exact h
def C2U (t:List Nat):(nC t).mapM A0a=some (t.map fun x:Nat=>Tree.int .i64 (x:Int)):=by
 induction t with
 | nil=>rfl
 | cons x t ih=>unfold nC at ih ⊢; simp [JZ,A0a,ih]
def C5h {H:List Blk} {j:Nat} {t:List Nat} {X:List ACell} (hj:H[j]? =some (.box (nC t++X))):A0b H (.ref j 1 0 t.length t.length)=some (.slice (A0p (t.map fun x:Nat=>(x:Int)))):=by
 simp only [A0b,hj,Blk.cells,Option.bind_some,QQ,true_and,ZY,Wq,XX,C5g,C2U,Option.map_some];rw [if_pos (by simp [B3p])];have h:=B7y (t.map fun x:Nat=>Tree.int .i64 (x:Int));rw [XW] at h;rw [h];simp [A0p]
def B4M {n:Nat} (h:1≤n):(List.range n).filter (fun h=>decide (h=0))=[0]:=by
 obtain ⟨k,rfl⟩: ∃k,n=k+1:=⟨n-1,by omega⟩;rw [Qj6,Qw5,if_pos (by simp)];rw [List.filter_eq_nil_iff.2];intro a ha;obtain ⟨b,_,rfl⟩:=QJ.1 ha;simp
open Classical in
def B3q {g:G} {n:Nat} (hc:checkG g=0) (hn:g.n=n):connB g=true↔ ∀u w,u<n->w<n->Conn (endsL g.es) u w:=by
 have h12:=(A0j.1 hc).1;rw [A2W hc hn,decide_eq_true_eq];constructor
 ·intro h u w hu hw;exact A6H (A54 n (endsL g.es)) h hu hw
 ·intro h;unfold ncls;have e:(List.range n).filter (fun x=>decide (∀y,y<n->Conn (endsL g.es) x y->x≤y))=(List.range n).filter (fun h=>decide (h=0)):=Qw3 fun x hx=>by
   refine decide_eq_decide.2 ⟨fun hx2=> ?_,fun hx2=> ?_⟩
   ·have:=hx2 0 (by omega) (h x 0 (Xy.1 hx) (by omega));omega
   ·subst hx2; intro y _ _; omega
  rw [e,B4M (by omega)]; rfl
structure IndS (g:G) (n:Nat) (l:List Int) (R:List Bool):Prop where
 c:checkG g=0
 n':g.n=n
 r: ∀x,x∈l->0≤x∧x<n
 m: ∀v,v<n->(R.getD v false=true↔(v:Int)∈l)
section
variable {g:G} {n:Nat} {l:List Int} {R:List Bool}
end
section
variable {P:Program} {rd:Option Nat} {h:Nat} {Q:Exit->St->Prop} {c:Code} {tm:List AVal} {H:List Blk}
end
end Go.Proofs.YtdbdfkohpjefjaaGreat
