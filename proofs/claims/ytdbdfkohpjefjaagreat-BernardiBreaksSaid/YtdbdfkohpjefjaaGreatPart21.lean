/- A part of the proof. -/
import Derived.Test.YtdbdfkohpjefjaaGreatPart16
import Derived.Test.YtdbdfkohpjefjaaGreatPart17
import Derived.Test.YtdbdfkohpjefjaaGreatPart18
set_option linter.all false
set_option maxHeartbeats 4000000
set_option maxRecDepth 100000
namespace Go.Proofs.YtdbdfkohpjefjaaGreat
open Go.Sp
def mB (l:List Nat):List (MKey×MV):=l.map fun x:Nat=>(.int (x:Int),.c (.bool true))
def C06: ∀(l:List Nat) (x:Nat),x∉l->mIdx (mB l) (.int x)=none
 | [],x,_=>rfl
 | y::l,x,h=>by
  have h1: ¬y=x:=fun e=>h (by simp [e]);have h2:=C06 l x (fun hm=>h (by simp [hm]));unfold mIdx at h2 ⊢;unfold mB at h2 ⊢;simp only [XY,JJ,h2,Option.map_none];rw [if_neg];intro e;have:(MKey.int (y:Int))= .int x:=by simpa using e
  injection this with e;exact h1 (by omega)
def C6T {l:List Nat} {x:Nat} (h:x∉l) (z:MV):A7g (mB l) (.int x) z=z:=by
 unfold A7g; rw [C06 l x h]; rfl
def C6U {l:List Nat} {x:Nat} (h:x∉l):B3X (mB l) (.int x) (.c (.bool true))=mB (l++[x]):=by
 unfold B3X; rw [C06 l x h]; simp [mB]
def C52 {l:List Nat}: ∀e,e∈mB l->KShape.ok .int e.1=true:=fun e h=>by
 obtain ⟨x,_,rfl⟩:=QY.1 h;rfl
def A6K {R:List Bool} {i:Nat} (h:i<R.length):R[i]? =some (R.getD i false):=by
 rw [Qz,Qq h]; rfl
def C1M (s:Nat->Nat) (T:List Nat) (x:Nat):Nat:=if x / 2∈T then s (oppH x) else s x
def C07 (s:Nat->Nat) {T:List Nat} {e:Nat} (he: ¬e∈T):C1M s (T++[e])=A1l (C1M s T) (2*e) (2*e+1):=by
 have e1:oppH (2*e)=2*e+1:=by unfold oppH; omega
 have e2:oppH (2*e+1)=2*e:=by unfold oppH; omega
 have d1:2*e / 2=e:=by omega
 have d2:(2*e+1) / 2=e:=by omega
 funext x;unfold A1l C1M;by_cases h1:x=2*e
 ·subst h1;rw [if_pos (by rw [d1]; simp),if_pos rfl,d2,if_neg he,e1]
 ·by_cases h2:x=2*e+1
  ·subst h2;rw [if_pos (by rw [d2]; simp),if_neg (by omega),if_pos rfl,d1,if_neg he,e2]
  ·rw [if_neg h1,if_neg h2];have h3:x / 2≠e:=by omega
   by_cases h4:x / 2∈T
   ·rw [if_pos (by simp [h4]),if_pos h4]
   ·rw [if_neg (by simp [h4,h3]),if_neg h4]
def pkN (L:List (Int×Int)) (T:List Nat):List (Int×Int):=T.map fun e=>L.getD e (0,0)
def C08 (L:List (Int×Int)) (T:List Nat):pkN L T=pkL L (T.map fun e:Nat=>(e:Int)):=by
 unfold pkN pkL;rw [Qq1];exact Jw fun e _=>rfl
section
variable {E n:Nat} {L:List (Int×Int)} {s g:Nat->Nat}
def Emb.set_tour (h:Emb E n L s g) (hb: ∀x y,x<2*E->y<2*E->(A3M s x y↔g x=g y)) {T:List Nat} (hn:T.Nodup) (hT: ∀e,e∈T->e<E) (ha:acyc (pkN L T)):
  ∀k,k≤T.length->PermN (2*E) (C1M s (T.take k))∧ ∀x y,x<2*E->y<2*E->(A3M (C1M s (T.take k)) x y↔Conn (pkN L (T.take k)) (g x) (g y))
 | 0,_=>by
  have e:C1M s (T.take 0)=s:=by funext x; simp [C1M]
  rw [e];refine ⟨h.perm,fun x y hx hy=> ?_⟩;rw [hb x y hx hy];show _↔Conn [] _ _;exact A6H.symm
 | k+1,hk=>by
  obtain ⟨ih1,ih2⟩:=h.set_tour hb hn hT ha k (by omega);have hkl:k<T.length:=by omega
  have hel:=hT _ (Xw hkl);have htk:T.take (k+1)=T.take k++[T[k]]:=Xy hkl;have hne: ¬T[k]∈T.take k:=fun hm=>by
   obtain ⟨j,hj,e⟩:=List.getElem_of_mem hm;rw [Wk] at hj;rw [List.getElem_take] at e;exact ZJ.1 hn j k (by omega) hkl (by omega) e
  have hLe:=h.ends T[k] hel;have hpk:pkN L (T.take (k+1))=pkN L (T.take k)++[(((g (2*T[k]):Nat):Int),((g (2*T[k]+1):Nat):Int))]:=by
   rw [htk]; unfold pkN;rw [Jz];simp only [XY,ZQ];rw [Qz,hLe]; rfl
  have hnc: ¬Conn (pkN L (T.take k)) (g (2*T[k])) (g (2*T[k]+1)):=by
   have hg:(pkN L T)[k]? =some (((g (2*T[k]):Nat):Int),((g (2*T[k]+1):Nat):Int)):=by
    unfold pkN;rw [QQ,Qq hkl];simp only [Option.map_some];rw [Qz,hLe]; rfl
   have:=ha k _ hg;have e:(pkN L T).take k=pkN L (T.take k):=by unfold pkN; rw [List.map_take]
   rw [e] at this;simpa using this
  rw [hpk,htk,C07 s hne];generalize T[k]=e at*;have hnb: ¬A3M (C1M s (T.take k)) (2*e) (2*e+1):=fun hc=>hnc ((ih2 _ _ (by omega) (by omega)).1 hc);refine ⟨A9g ih1 (by omega) (by omega),fun x y hx hy=> ?_⟩;rw [B9a ih1 (by omega) (by omega) hnb x y hx hy,A5e,ih2 x y hx hy,ih2 _ x (by omega) hx,ih2 _ x (by omega) hx,ih2 _ y (by omega) hy,ih2 _ y (by omega) hy]
end
def B3x (w a:Nat):Nat:=w / 2^a%2
def C8l (w a:Nat) (ha:a≤12):((w:Int)).fdiv (2^min a 64)=((w / 2^a:Nat):Int):=by
 rw [Qq6 (by omega)];have e:(2:Int)^a=((2^a:Nat):Int):=by simp
 rw [e,Int.fdiv_eq_ediv_of_nonneg _ (Int.natCast_nonneg _)];rfl
def C8m (x:Nat) (hx:x<2^40):B6I .and .i64 (x:Int) 1=((x%2:Nat):Int):=by
 have h:(BitVec.ofInt 64 (x:Int)&&&BitVec.ofInt 64 (1:Int)).toNat=x%2:=by
  rw [BitVec.ofInt_natCast,show BitVec.ofInt 64 (1:Int)=BitVec.ofNat 64 1 from rfl,BitVec.toNat_and,BitVec.toNat_ofNat,BitVec.toNat_ofNat,Vw (show x<2^64 by omega),show 1%2^64=1 by decide,Nat.and_one_is_mod]
 show IntKind.i64.wrap (((BitVec.ofInt 64 (x:Int)&&&BitVec.ofInt 64 (1:Int)).toNat:Nat):Int)=_;rw [h];exact wrap_in ⟨by show (-9223372036854775808:Int)≤_; omega,by show _≤(9223372036854775807:Int); omega⟩
def C8n (n:Nat) (h:n≤12):(1:Int)*2^min n 64=((2^n:Nat):Int):=by
 rw [Qq6 (by omega),Int.one_mul]; simp
def C7P {n:Nat} (h:n≤12):2^n≤4096∧1≤2^n:=⟨Qq3 (by omega) h,Nat.one_le_two_pow⟩
def setN (n w:Nat):List Nat:=(List.range n).filter fun v=>decide (B3x w v=1)
def A6L (n w:Nat):setN (n+1) w=if B3x w n=1 then setN n w++[n] else setN n w:=by
 unfold setN;rw [WQ,JV];by_cases h:B3x w n=1<;>simp [h]
def A4x (n w:Nat):(setN n w).length≤n:=by unfold setN; exact Yw (WW _ _) (by simp)
def cutW (w:Nat):List E->Int
 | []=>0
 | e::es=>(if B3x w e.a.toNat=B3x w e.b.toNat then 0 else e.m)+cutW w es
def C3q (n:Nat) (es:List E) (s:Int×List Nat) (w:Nat):Int×List Nat:=
 if w%2=0 then s else if 0≤s.1∧s.1<cutW w es then s else
  if cutW w es<s.1∨s.1<0∨A1I (zI (setN n w)) (zI s.2)<0 then (cutW w es,setN n w) else s
def connW (n:Nat) (es:List E) (k:Nat):Int×List Nat:=(List.range k).foldl (C3q n es) (-1,[])
def C53 (L:List (Int×Int)) (T:List Nat):(pkN L T).length=T.length:=by simp [pkN]
def B4W (L:List (Int×Int)) (A B:List Nat):pkN L (A++B)=pkN L A++pkN L B:=by simp [pkN]
variable {L:List (Int×Int)}
def C09 {n:Nat} {T:List Nat} (hL:InN n L) (ht: ∀x,x∈T->x<L.length):InN n (pkN L T):=fun p hp=>by
 obtain ⟨x,hx,rfl⟩:=QY.1 hp;rw [Qz,Qq (ht x hx)];exact hL _ (Xw _)
open Classical in
noncomputable def A18 (n:Nat) (L:List (Int×Int)):Nat->List Nat->Nat->List (List Nat)
 | 0,t,_=>if t.length+1=n then [t] else []
 | k+1,t,e=>if t.length+1=n then [t] else (if acyc (pkN L (t++[e])) then A18 n L k (t++[e]) (e+1) else [])++A18 n L k t (e+1)
def A4c {n:Nat}: ∀{k:Nat} {t:List Nat} {e:Nat} {T:List Nat},acyc (pkN L t)->
  (T∈A18 n L k t e↔ ∃s,T=t++s∧s.Pairwise (·< ·)∧(∀x,x∈s->e≤x∧x<e+k)∧T.length+1=n∧acyc (pkN L T)):=by
 intro k
 induction k with
 | zero=>
  intro t e T ha;unfold A18;constructor
  ·intro h;split at h
   ·rename_i hl;rw [XQ] at h;subst h;exact ⟨[],by simp,.nil,by simp,hl,ha⟩
   ·cases h
  ·rintro ⟨s,rfl,_,h2,h3,_⟩;have:s=[]:=by
    cases s with
    | nil=>rfl
    | cons x s=>have:=h2 x (by simp); omega
   subst this;rw [WX] at h3 ⊢;rw [if_pos h3]; simp
 | succ k ih=>
  intro t e T ha;unfold A18;by_cases hl:t.length+1=n
  ·rw [if_pos hl,XQ];constructor
   ·rintro rfl;exact ⟨[],by simp,.nil,by simp,hl,ha⟩
   ·rintro ⟨s,rfl,_,_,h3,_⟩;have:s.length=0:=by rw [Xv] at h3; omega
    rw [ZY.1 this,WX]
  ·rw [if_neg hl,XZ,ih ha];constructor
   ·rintro (h | ⟨s,h1,h2,h3,h4,h5⟩)
    ·split at h
     ·rename_i hc;obtain ⟨s,h1,h2,h3,h4,h5⟩:=(ih hc).1 h;refine ⟨e::s,by rw [h1]; simp,Jq.2 ⟨fun x hx=>by have:=(h3 x hx).1; omega,h2⟩,fun x hx=> ?_,h4,h5⟩;rcases QV.1 hx with rfl | hx
      ·omega
      ·have:=h3 x hx; omega
     ·cases h
    ·exact ⟨s,h1,h2,fun x hx=>by have:=h3 x hx; omega,h4,h5⟩
   ·rintro ⟨s,rfl,h2,h3,h4,h5⟩;cases s with
    | nil=>exact absurd (by simpa using h4) hl
    | cons x s=>
     by_cases hx:x=e
     ·subst hx;left;have hc:acyc (pkN L (t++[x])):=by
       rw [show t++x::s=(t++[x])++s by simp,B4W] at h5;exact B6e h5
      rw [if_pos hc];refine (ih hc).2 ⟨s,by simp,(Jq.1 h2).2,fun y hy=> ?_,h4,h5⟩;have:=(Jq.1 h2).1 y hy;have:=h3 y (by simp [hy]);omega
     ·right;refine ⟨x::s,rfl,h2,fun y hy=> ?_,h4,h5⟩;have h6:=h3 x (by simp);have h7:=h3 y hy;rcases QV.1 hy with rfl | hy
      ·omega
      ·have:=(Jq.1 h2).1 y hy; omega
def A6c {n:Nat}: ∀{k:Nat} {t:List Nat} {e:Nat},acyc (pkN L t)->(A18 n L k t e).Nodup:=by
 intro k
 induction k with
 | zero=>intro t e _; unfold A18; split<;>simp
 | succ k ih=>
  intro t e ha;unfold A18;split
  ·simp
  ·refine YW.2 ⟨?_,ih ha,fun A hA B hB=> ?_⟩
   ·split
    ·rename_i hc; exact ih hc
    ·simp
   ·rintro rfl;split at hA
    ·rename_i hc;obtain ⟨s,h1,_⟩:=(A4c hc).1 hA;obtain ⟨s',h2,_,h3,_⟩:=(A4c ha).1 hB;rw [h1,Zv] at h2;have h4:=List.append_cancel_left h2;have:=h3 e (by rw [<-h4]; simp);omega
    ·cases hA
def B7G {n:Nat} {R:Nat->Nat->Prop} (h0:0<n) (h: ∀x y,x<n->y<n->R x y):ncls n R=1:=by
 rw [A2v (S:=fun x y=>(fun _:Nat=>0) x=(fun _:Nat=>0) y) fun x y hx hy=>⟨fun _=>rfl,fun _=>h x y hx hy⟩];exact A97 _ (fun x _=>by omega) fun v hv=>⟨0,h0,by omega⟩
def C0A {n:Nat} (h0:0<n) (hL:InN n L) {k:Nat} {t:List Nat} {e:Nat} (ha:acyc (pkN L t)) (ht: ∀x,x∈t->x<L.length) (he:e+k=L.length)
  (hn:ncls n (Conn (pkN L t++L.drop e))≠1):A18 n L k t e=[]:=by
 refine List.eq_nil_iff_forall_not_mem.2 fun T hT=>hn ?_;obtain ⟨s,rfl,h2,h3,h4,h5⟩:=(A4c ha).1 hT;have hin: ∀x,x∈t++s->x<L.length:=fun x hx=>by
  rcases XZ.1 hx with hx | hx
  ·exact ht x hx
  ·have:=h3 x hx; omega
 have h6:=(A4v (n:=n) (pkN L (t++s)) (C09 hL hin)).2.1 h5;rw [C53] at h6;have h7:ncls n (Conn (pkN L (t++s)))=1:=by omega
 refine B7G h0 fun x y hx hy=> ?_;refine B1M (l:=pkN L (t++s)) (fun u w hu=> .inl ?_) (A6G (A58 n _) h7 hx hy);rw [B4W] at hu;rcases XZ.1 hu with hu | hu
 ·exact Qx7 _ hu
 ·refine List.mem_append_right _ ?_;obtain ⟨i,hi,hp⟩:=QY.1 hu;have hb:=h3 i hi;rw [Qz,Qq (show i<L.length by omega),Option.getD_some] at hp;rw [<-hp];refine Zj.2 ⟨i-e,?_⟩;rw [YX,show e+(i-e)=i by omega];exact Qq _
def cntF (n:Nat) (F:List Nat):Nat:=((List.range n).filter fun v=>decide (F[v]? =some v)).length
structure TD (n:Nat) (M:List (Int×Int)) (F:List Nat) (rt dp:Nat->Nat):Prop where
 tc:TC M F rt dp
 lt: ∀v,v<n->rt v<n
 cnt:cntF n F=ncls n (Conn M)
def TDe (n:Nat) (M:List (Int×Int)) (F:List Nat):Prop:= ∃rt dp,TD n M F rt dp
variable {M:List (Int×Int)}
def C54 {n:Nat} (hM:InN n M) {u w:Nat} (h:Conn M u w) (hu:u<n):w<n:=by
 induction h with
 | refl=>exact hu
 | step _ hs _=>
  rcases hs with hs | hs
  ·have:=(hM _ hs).2.2; simp only at this; omega
  ·have:=(hM _ hs).1.2; simp only at this; omega
variable {F:List Nat}
def TD.of {n:Nat} {rt dp:Nat->Nat} (tc:TC M F rt dp) (hn:n≤12) (hM:InN n M) (hc:cntF n F=ncls n (Conn M)):TD n M F rt dp:=
 ⟨tc,fun v hv=>C54 hM ((tc.conn v (rt v) (by omega) (tc.tf.rlt v (by omega))).1 (tc.tf.idem (by omega)).symm) hv,hc⟩
def TDe.of {n:Nat} (tc:TCe M F) (hn:n≤12) (hM:InN n M) (hc:cntF n F=ncls n (Conn M)):TDe n M F:=by
 obtain ⟨rt,dp,tc⟩:=tc;exact ⟨rt,dp,TD.of tc hn hM hc⟩
def TDe.zero (n:Nat) (hn:n≤12):TDe n [] (List.range 12):=by
 refine TDe.of TCe.zero hn (fun p hp=>by simp at hp) ?_;rw [A4u];unfold cntF
 rw [List.filter_eq_self.2 (fun v hv=>by
  have:v<12:=by have:=Xk.1 hv; omega
  simp [this]),Vy]
def TD.snoc {n:Nat} {rt dp:Nat->Nat} (h:TD n M F rt dp) {a b:Nat} (hn:n≤12) (hM:InN n M) (ha:a<n) (hb:b<n):
  TDe n (M++[((a:Int),(b:Int))]) (F.set (rt a) (rt b)):=by
 refine TDe.of (h.tc.snoc (by omega) (by omega)) hn (fun p hp=> ?_) ?_
 ·rcases XZ.1 hp with hp | hp
  ·exact hM p hp
  ·rw [XQ] at hp; subst hp; simp only; omega
 ·have hcn:=h.tc.conn a b (by omega) (by omega);by_cases e:rt a=rt b
  ·rw [h.tc.tf.stay (by omega) e,A3F (hcn.1 e)];exact h.cnt
  ·have h1:=A2Q (n:=n) ha hb (fun h=>e (hcn.2 h));have hfa:=h.tc.tf.fix a (by omega);have hla:=h.lt a ha
   have h2:=A7Q (l:=List.range n) (p:=fun v=>decide (F[v]? =some v)) (q:=fun v=>decide ((F.set (rt a) (rt b))[v]? =some v)) (m:=rt a) Qx1 (Xk.2 hla) (by simp [hfa]) (fun x hx=>by
    by_cases hxa:x=rt a
    ·subst hxa;rw [QX (by rw [h.tc.tf.len]; omega)];simp [Ne.symm e]
    ·rw [Qy (Ne.symm hxa)]
     simp [hxa])
   have h3:=h.cnt;unfold cntF at h3 ⊢;omega
def C6V (n:Nat) (R:List Bool) (hR:R.length=n) {H:List Blk} (h5:H[5]? =some (.box (bC R))) (h6:H[6]? =some (.box [.ref 5 1 0 n n])) (u:Nat) (hu:u<n):
  ACallH Tryz.prog 186 H [.c (.int .i64 (u:Int)),.c (.ptr 6 0)] H (.c (.bool (R.getD u false))):=by
 have hg:=A6K (R:=R) (i:=u) (by omega);have hb:=B0E hg;generalize R.getD u false=b at*;have huI:(u:Int)<(n:Int):=by omega
 refine ACallH.of_body Tryz.func186 rfl (by kernel_rfl) ?_;simp only [entry,Tryz.ntmps186,List.length_cons,List.length_nil,Nat.reduceAdd,Nat.reduceSub,List.replicate_succ,List.replicate_zero,List.cons_append,List.nil_append];refine zR (zc @h6 (zc @h5 (zc @hb (zc @huI (zc @A1Z (zc @hR (zc @XX Qv5))))))) Qv5 Qv5 ?_;simp [A4Q,A2f,A0o,A2e,Tryz.results186]
def C7Q (t:Int) (v:Nat) (d:List Int) (x:Int×Int):List Int:=(d.set v (d.getD v 0-x.2*t)).set x.1.toNat ((d.set v (d.getD v 0-x.2*t)).getD x.1.toNat 0+x.2*t)
def C7R (es:List E) (t:Int) (v:Nat) (d:List Int):List Int:=(lnkL es v).foldl (C7Q t v) d
def C55 (es:List E) (t:Int) (R:List Bool):Nat->List Int->List Int
 | 0,d=>d
 | k+1,d=>if R.getD k false=true then C7R es t k (C55 es t R k d) else C55 es t R k d
def C3r (t:Int) (R:List Bool):Nat->List Int->List Int
 | 0,s=>s
 | k+1,s=>if R.getD k false=true then (C3r t R k s).set k ((C3r t R k s).getD k 0+t) else C3r t R k s
def bndL (K:Int) (d:List Int):Prop:= ∀i,-K≤d.getD i 0∧d.getD i 0≤K
def A1t {d:List Int} {i:Nat} (h:i<d.length):d[i]? =some (d.getD i 0):=by
 rw [Qz,Qq h]; rfl
def C3s {F:List Nat} {i:Nat}:cntF (i+1) F=cntF i F+(if F[i]? =some i then 1 else 0):=by
 unfold cntF;rw [WQ,JV,Xv];by_cases h:F[i]? =some i
 ·rw [if_pos h]; simp [h]
 ·rw [if_neg h]; simp [h]
def cnt_le (F:List Nat) (i:Nat):cntF i F≤i:=Yw (WW _ _) (by simp)
def C56 (n:Nat) (R:Nat->Nat->Prop):ncls n R≤n:=Yw (WW _ _) (by simp)
def B4X (n:Nat) (hn:n≤12) (M L:List (Int×Int)) (F:List Nat) (hF:TDe n M F) (hM:InN n M) (hL:InN n L) (hl:L.length<2^40):
  ACall Tryz.prog 128 [A0j n,tF F,A06 L] (A0q (decide (ncls n (Conn (M++L))=1))):=by
 obtain ⟨rt,dp,td⟩:=hF;have hlen:=td.tc.tf.len;have hof:(fT F).map A0v=fC F:=B7x F;refine ACall.of_body Tryz.func128 rfl (by kernel_rfl) ?_;simp only [entry,Tryz.ntmps128,A0j,A06,tF];refine zU ?_;refine zR (zc @hof Qv5) Qv5 Qv5 ?_;refine AWp.loopS (α:=Nat) 35 (fun i=>[(2,.c (.slice (A0U L) .none)),(4,.c (.ptr 0 0)),(7,.c (.int .i64 (cntF i F:Nat))),(11,.c (.int .i64 (n:Int))),(12,.c (.int .i64 (i:Int)))]) (fun i=>[.box (fC F)]) (fun i=>i≤n) (fun i=>n-i) (0) (hk:=Weak.headL 1 35 [2,4,7,11,12] (zWs @A1s)) (h0:=?_) (round:=fun i hI=>?_)
 ·exact Xj _
 ·by_cases hlt:i<n
  ·have hltI:(i:Int)<n:=by omega
   have hR:=A77 td.tc.tf i (by omega) (H:=[.box (fC F)]) (id:=0) rfl;have hs:=C3s (F:=F) (i:=i);have hcl:=cnt_le F i;by_cases e:rt i=i
   ·have hfx:=td.tc.tf.fix i (by omega);rw [e] at hfx hR;rw [if_pos hfx] at hs;refine zJ Qv5 (zc @hltI Qv5) Qv5 (zc hR Qv5) Qv5 ?_;refine ⟨i+1,Weak.headF 1 35 [2,4,7,11,12] (zc @hs Qv5) (zWs @A1s),?_,?_⟩
    ·exact hlt
    ·omega
   ·have hfx: ¬F[i]? =some i:=fun h=>by
     have hil:i<F.length:=by omega
     rw [Qq hil] at h;exact e (td.tc.tf.self i hil (by simpa using h))
    rw [if_neg hfx,Nat.add_zero] at hs;have eI: ¬((rt i:Nat):Int)=i:=by omega
    refine zJ Qv5 (zc @hltI (zc @eI Qv5)) Qv5 (zc hR Qv5) Qv5 ?_;refine ⟨i+1,Weak.headN 1 35 [2,4,7,11,12] (zWs @A1s),?_,?_⟩
    ·exact hlt
    ·omega
  ·have ei:i=n:=by omega
   subst ei;have hnl: ¬((i:Int)<i):=by omega
   rw [td.cnt];refine zR (zc @hnl (zc @A0z Qv5)) Qv5 Qv5 ?_;refine AWp.loopS (α:=(Nat×List Nat)) 35 (fun s=>[(4,.c (.ptr 0 0)),(7,.c (.int .i64 (ncls i (Conn (M++L.take s.1)):Nat))),(22,.c (.slice (A0U L) .none)),(23,.c (.int .i64 (L.length:Int))),(24,.c (.int .i64 (s.1:Int)))]) (fun s=>[.box (fC s.2)]) (fun s=>s.1≤L.length∧TDe i (M++L.take s.1) s.2) (fun s=>L.length-s.1) ((0,F)) (hk:=Weak.headL 1 35 [4,7,22,23,24] (zWs @A1s)) (h0:=?_) (round:=fun s hI=>?_)
   ·exact ⟨Xj _,by simpa using ⟨rt,dp,td⟩⟩
   ·obtain ⟨k,F2⟩:=s;obtain ⟨hk,hT⟩:=hI;simp only at hk hT ⊢;by_cases hlt2:k<L.length
    ·have hltI:(k:Int)<L.length:=by omega
     have e0:=Qq hlt2;have e1:=A28 e0;have hsn:=take_snoc e0;have hrng:=hL _ (Xw hlt2);generalize L[k]=p at*;obtain ⟨pa,pb⟩:=p;obtain ⟨a,rfl⟩:=Zx hrng.1.1;obtain ⟨b,rfl⟩:=Zx hrng.2.1;have ha:a<i:=by have:=hrng.1.2; simp only at this; omega
     have hb:b<i:=by have:=hrng.2.2; simp only at this; omega
     change L.take (k+1)=L.take k++[((a:Int),(b:Int))] at hsn;change (A0U L)[k]? =some [.int .i64 (a:Int),.int .i64 (b:Int)] at e1;obtain ⟨rt2,dp2,t2⟩:=hT;have hM2:InN i (M++L.take k):=fun q hq=>by
      rcases XZ.1 hq with hq | hq
      ·exact hM q hq
      ·exact hL q (JZ hq)
     have tn:=t2.snoc (a:=a) (b:=b) hn hM2 ha hb;rw [Zv,<-hsn] at tn;have hJ:=A8t t2.tc.tf a b (by omega) (by omega) (H:=[.box (fC F2),.box [.int .i64 (a:Int),.int .i64 (b:Int)]]) (id:=0) rfl;have hcn:=t2.tc.conn a b (by omega) (by omega);have hcl2:=C56 i (Conn (M++L.take k));by_cases e:rt2 a=rt2 b
     ·have hs:=A3F (n:=i) (hcn.1 e);rw [Zv,<-hsn] at hs;rw [decide_eq_true e,Qq4] at hJ;simp only [List.set_cons_succ,List.set_cons_zero,List.cons_append,List.nil_append] at hJ;refine zJ Qv5 (zc @hltI (zc @e1 (zc @A0z Qv5))) Qv5 (zc hJ Qv5) Qv5 ?_;refine ⟨(k+1,F2.set (rt2 a) (rt2 b)),Weak.headF 1 35 [4,7,22,23,24] (zc @hs Qv5) (zWs @A1s),?_,?_⟩
      ·exact ⟨hlt2,tn⟩
      ·simp only; omega
     ·have hs:=A2Q (n:=i) ha hb (fun h=>e (hcn.2 h));rw [Zv,<-hsn] at hs;have hsI:((ncls i (Conn (M++L.take k)):Nat):Int)-1=((ncls i (Conn (M++L.take (k+1))):Nat):Int):=by omega
      rw [decide_eq_false e,Qx8] at hJ;simp only [List.set_cons_succ,List.set_cons_zero,List.cons_append,List.nil_append] at hJ;refine zJ Qv5 (zc @hltI (zc @e1 (zc @A0z (zc @hsI Qv5)))) Qv5 (zc hJ Qv5) Qv5 ?_;refine ⟨(k+1,F2.set (rt2 a) (rt2 b)),Weak.headN 1 35 [4,7,22,23,24] (zWs @A1s),?_,?_⟩
      ·exact ⟨hlt2,tn⟩
      ·simp only; omega
    ·have ek:k=L.length:=by omega
     subst ek;have hnl: ¬((L.length:Int)<L.length):=by omega
     rw [Zz];by_cases h1:ncls i (Conn (M++L))=1
     ·rw [decide_eq_true h1,h1];refine zR (zc @hnl Qv5) Qv5 Qv5 ?_;simp [A0s,A0r,Blk.cells,ty,Tryz.results128,A0o,A0p,toT,A0d,A0b,A0c,A0a,A0q]
     ·rw [decide_eq_false h1];have h1I: ¬((ncls i (Conn (M++L)):Nat):Int)=1:=by omega
      refine zR (zc @hnl (zc @h1I Qv5)) Qv5 Qv5 ?_;simp [A0s,A0r,Blk.cells,ty,Tryz.results128,A0o,A0p,toT,A0d,A0b,A0c,A0a,A0q]
def B4Y {n:Nat} (h:1≤n):(List.range n).filter (fun h=>decide (h=0))=[0]:=by
 obtain ⟨k,rfl⟩: ∃k,n=k+1:=⟨n-1,by omega⟩;rw [Qj9,Qw5,if_pos (by simp)];rw [List.filter_eq_nil_iff.2];intro a ha;obtain ⟨b,_,rfl⟩:=QY.1 ha;simp
open Classical in
def A6M {g:G} {n:Nat} (hc:checkG g=0) (hn:g.n=n):connB g=true↔ ∀u w,u<n->w<n->Conn (endsL g.es) u w:=by
 have h12:=(A0h.1 hc).1;rw [A2W hc hn,decide_eq_true_eq];constructor
 ·intro h u w hu hw;exact A6G (A58 n (endsL g.es)) h hu hw
 ·intro h;unfold ncls;have e:(List.range n).filter (fun x=>decide (∀y,y<n->Conn (endsL g.es) x y->x≤y))=(List.range n).filter (fun h=>decide (h=0)):=Qw4 fun x hx=>by
   refine decide_eq_decide.2 ⟨fun hx2=> ?_,fun hx2=> ?_⟩
   ·have:=hx2 0 (by omega) (h x 0 (Xk.1 hx) (by omega));omega
   ·subst hx2; intro y _ _; omega
  rw [e,B4Y (by omega)]; rfl
structure IndS (g:G) (n:Nat) (l:List Int) (R:List Bool):Prop where
 c:checkG g=0
 n':g.n=n
 r: ∀x,x∈l->0≤x∧x<n
 m: ∀v,v<n->(R.getD v false=true↔(v:Int)∈l)
section
variable {g:G} {n:Nat} {l:List Int} {R:List Bool}
end
end Go.Proofs.YtdbdfkohpjefjaaGreat
