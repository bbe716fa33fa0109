/- A part of the proof. -/
import Derived.Test.YtdbdfkohpjefjaaGreatPart41
import Derived.Test.YtdbdfkohpjefjaaGreatPart42
import Derived.Test.YtdbdfkohpjefjaaGreatPart43
set_option linter.all false
set_option maxHeartbeats 4000000
set_option maxRecDepth 100000
namespace Go.Proofs.YtdbdfkohpjefjaaGreat
open Go.Sp
set_option maxHeartbeats 2000000
theorem C1h (t a b:List Int):A1H (t++a) (t++b)=A1H a b:=by
 induction t with
 | nil=>rfl
 | cons x t ih=>show (if x=x then A1H (t++a) (t++b) else decide (x<x))=_; rw [if_pos rfl,ih]
theorem A4J {n:Nat} {L:List (Int×Int)}: ∀{k:Nat} {t:List Nat} {e:Nat},A5i (pkN L t)->(A16 n L k t e).Pairwise fun a b=>A1H (zI b) (zI a)=false
 | 0,t,e,ha=>by unfold A16; split<;>simp
 | k +1,t,e,ha=>by
  unfold A16;split
  ·simp
  ·rename_i hn;rw [Qq8];refine ⟨?_,A4J ha,fun A hA B hB=> ?_⟩
   ·split
    ·rename_i h; exact A4J h
    ·simp
   ·split at hA
    ·rename_i h;obtain ⟨s,rfl,-⟩:=(A3E h).1 hA;obtain ⟨s2,rfl,-,h2,h3,-⟩:=(A3E ha).1 hB;have e1:zI (t++[e]++s)=zI t++((e:Int)::zI s):=by simp [zI]
     have e2:zI (t++s2)=zI t++zI s2:=by simp [zI]
     rw [e1,e2];refine A1Z _ _ ?_;rw [C1h];cases s2 with
     | nil=>rw [WZ] at h3; exact absurd h3 hn
     | cons x s2=>
      have:=(h2 x (by simp)).1;show (if (e:Int)=(x:Int) then _ else decide ((e:Int)<(x:Int)))=true;rw [if_neg (by omega),decide_eq_true (by omega)]
    ·cases hA
theorem A3s {n:Nat} {L:List (Int×Int)} {T:List Nat}:T∈allT n L↔T.Pairwise (·< ·)∧(∀x,x∈T->x<L.length)∧T.length+1=n∧A5i (pkN L T):=by
 unfold allT;rw [A3E (show A5i (pkN L []) from A3W)];constructor
 ·rintro ⟨s,rfl,h1,h2,h3,h4⟩;exact ⟨h1,fun x hx=>by have:=h2 x hx; omega,h3,h4⟩
 ·rintro ⟨h1,h2,h3,h4⟩;exact ⟨T,rfl,h1,fun x hx=>by have:=h2 x hx; omega,h3,h4⟩
theorem A6v {n:Nat} {L:List (Int×Int)} (h0:0<n) (hL:InN n L) {T:List Nat} (hT: ∀x,x∈T->x<L.length):treeB n L (zI T)=true↔T.length+1=n∧A5i (pkN L T):=by
 have hpk:pkN L T=pkL L (zI T):=B8x L T;have hin:=B1X hL (t:=zI T) fun x hx=>by
  obtain ⟨a,ha,rfl⟩:=Xq.1 hx;have:=hT a ha; omega
 have hn:=(A6k (pkL L (zI T)) hin).2;rw [hpk,hn];unfold treeB;rw [decide_eq_true_eq,A2d,A2X,A2d];omega
theorem B9m {n:Nat} {L:List (Int×Int)} {t u:List Int} (h:t.Perm u):treeB n L t=treeB n L u:=by
 have hl:=h.length_eq;have hc: ∀x y,Conn (pkL L t) x y↔Conn (pkL L u) x y:=fun x y=>by
  have hm: ∀p,p∈pkL L t↔p∈pkL L u:=fun p=>(h.map _).mem_iff;exact ⟨Conn.mono fun p hp=>(hm p).1 hp,Conn.mono fun p hp=>(hm p).2 hp⟩
 unfold treeB;rw [hl,A2B fun x y _ _=>hc x y]
theorem C3j {E w w':Nat} (h1:w<2^E) (h2:w'<2^E) (h:setN E w=setN E w'):w=w':=by
 refine Nat.eq_of_testBit_eq fun i=> ?_;by_cases hi:i<E
 ·have key: ∀v,i∈setN E v↔v.testBit i=true:=fun v=>by
   unfold setN;rw [YW,XQ,decide_eq_true_eq,A6q];exact ⟨fun q=>q.2,fun q=>⟨hi,q⟩⟩
  have:=key w;rw [h,key w'] at this;rw [Qz1]; exact this.symm
 ·have hp:2^E≤2^i:=Vy (by omega) (by omega);rw [Qx1 (by omega),Qx1 (by omega)]
theorem B9n: ∀{a b:List Nat},zI a=zI b->a=b
 | [],[],_=>rfl
 | [],_::_,h=>by simp [zI] at h
 | _::_,[],h=>by simp [zI] at h
 | x::a,y::b,h=>by
  have h1:((x:Int)::zI a)=(y:Int)::zI b:=h;injection h1 with h2 h3;rw [B9n h3,Int.ofNat.inj h2]
theorem A9Z (g:G): ∀m,m≤2^(endsL g.es).length->(A3X g m).Nodup
 | 0,_=>by simp [A3X]
 | m+1,h=>by
  have ih:=A9Z g m (by omega);unfold A3X;split
  ·rw [JZ];refine ⟨ih,by simp,fun a ha b hb e=> ?_⟩;rw [XJ] at hb;subst e;obtain ⟨w,hw,q,-⟩:=A7A.1 ha;have:=C3j (by omega) (by omega) (B9n (hb.symm.trans q));omega
  ·exact ih
theorem C4v {E:Nat} {T:List Nat} (hs:T.Pairwise (·< ·)) (hT: ∀x,x∈T->x<E): ∃w,w<2^E∧T=setN E w:=by
 refine ⟨B0N (fun v=>decide (v∈T)) E,B0O _ _,?_⟩;have hs2:(setN E (B0N (fun v=>decide (v∈T)) E)).Pairwise (·< ·):=List.pairwise_lt_range.filter _;refine Qj6 (le:=(·< ·)) (fun a b _ _ q1 q2=>by omega) hs hs2 ?_;refine (Vw (hs.imp fun h=>Qz9 h) (hs2.imp fun h=>Qz9 h)).2 fun x=> ?_;unfold setN;rw [YW,XQ,decide_eq_true_eq,A6q];constructor
 ·intro hx;have:=hT x hx;exact ⟨this,by rw [A3G _ _ _ this]; exact decide_eq_true hx⟩
 ·rintro ⟨hx,h⟩;rw [A3G _ _ _ hx] at h;exact of_decide_eq_true h
theorem C1i {g:G} (hc:checkG g=0):tI (treesG g)=A8I g:=by
 have h12:=(A0j.1 hc).1;obtain ⟨n,hn⟩: ∃n:Nat,g.n=n:=⟨g.n.toNat,by omega⟩;have hIn:InN n (endsL g.es):=fun p hp=>by have:=A2z hc hn p hp; omega
 have htI:tI (treesG g)=(treesG g).map zI:=rfl;unfold A8I;have hnd:(allT n (endsL g.es)).Nodup:=A8D (show A5i (pkN (endsL g.es) []) from A3W);have hgt:treesG g=allT n (endsL g.es):=by unfold treesG; rw [show g.n.toNat=n by omega]
 rw [htI,hgt];refine A6n ?_ ?_
 ·rw [Jj];exact A4J (show A5i (pkN (endsL g.es) []) from A3W)
 ·refine (Vw (Jj.2 (hnd.imp fun {a b} hab e=>hab (B9n e))) (A9Z g _ (QQ _))).2 fun x=> ?_;rw [Xq,A7A];constructor
  ·rintro ⟨T,hT,rfl⟩;obtain ⟨h1,h2,h3,h4⟩:=A3s.1 hT;obtain ⟨w,hw,rfl⟩:=C4v h1 h2;exact ⟨w,hw,rfl,by rw [show g.n.toNat=n by omega]; exact (A6v (by omega) hIn h2).2 ⟨h3,h4⟩⟩
  ·rintro ⟨w,hw,rfl,ht⟩;have hT: ∀x,x∈setN (endsL g.es).length w->x<(endsL g.es).length:=fun x hx=>by
    unfold setN at hx;exact XQ.1 (YW.1 hx).1
   rw [show g.n.toNat=n by omega] at ht;have h2:=(A6v (by omega) hIn hT).1 ht;exact ⟨_,A3s.2 ⟨List.pairwise_lt_range.filter _,hT,h2.1,h2.2⟩,rfl⟩
set_option maxHeartbeats 2000000
def B6i (g:G):R:=⟨g.n,g.es,A1g (endsL g.es) g.n.toNat (2*(endsL g.es).length)⟩
theorem C3k (L:List (Int×Int)) (v:Int) (k:Nat):(ownL L v k).Nodup:=by
 unfold ownL;exact Jj.2 ((List.pairwise_lt_range.filter _).imp fun {a b} h e=>by have:a=b:=Int.ofNat.inj e; omega)
theorem B9o {g:G} (h:A0s g=0):ROk (B6i g):=by
 obtain ⟨hc,hcon⟩:=A1w h;have h12:=(A0j.1 hc).1;refine ⟨hc,hcon,?_,fun i l hl=> ?_⟩
 ·show ((A1g (endsL g.es) g.n.toNat (2*(endsL g.es).length)).length:Int)=g.n;rw [A0G]; omega
 ·have hl:(A1g (endsL g.es) g.n.toNat (2*(endsL g.es).length))[i]? =some l:=hl;have hi:i<g.n.toNat:=by have:=(Qx.1 hl).1; rwa [A0G] at this
  rw [A2S hi] at hl;cases hl;exact ⟨C3k _ _ _,fun _ h=>h,fun _ h=>h,rfl,.inr rfl⟩
theorem B9p {n:Nat} {L:List (Int×Int)} {g:Nat->Nat} (h0:0<n) (hL:InN n L) (hg:B3v L g) {t:List Int} (ht: ∀x,x∈t->0≤x∧x<(L.length:Int)) (hb:treeB n L t=true): ∃T,T∈allT n L∧A8N (zI T)=A8N t:=by
 have hnd:t.Nodup:=by
  unfold treeB at hb;obtain ⟨hl,hc⟩:=of_decide_eq_true hb;have hac:A5i (pkL L t):=(A6k _ (B1X hL ht)).2.2 (by rw [hc,A2X]; omega);exact A9O hg hac ht
 let T:=setN L.length (B0N (A8N t) L.length);have hTs:T.Pairwise (·< ·):=List.pairwise_lt_range.filter _;have hTm: ∀x:Nat,x∈T↔x<L.length∧(x:Int)∈t:=fun x=>by
  show x∈(List.range L.length).filter _↔_;rw [YW,XQ,decide_eq_true_eq,A6q];constructor
  ·rintro ⟨h,q⟩;rw [A3G _ _ _ h] at q;exact ⟨h,of_decide_eq_true q⟩
  ·rintro ⟨h,q⟩;exact ⟨h,by rw [A3G _ _ _ h]; exact decide_eq_true q⟩
 have hzm: ∀x,x∈zI T↔x∈t:=fun x=>by
  constructor
  ·intro h;obtain ⟨a,ha,rfl⟩:=Xq.1 h;exact ((hTm a).1 ha).2
  ·intro h;have:=ht x h;refine Xq.2 ⟨x.toNat,(hTm _).2 ⟨by omega,?_⟩,by show ((x.toNat:Nat):Int)=x; omega⟩;rw [show ((x.toNat:Nat):Int)=x by omega]; exact h
 have hp:(zI T).Perm t:=(Vw (Jj.2 (hTs.imp fun {a b} h e=>by have:a=b:=Int.ofNat.inj e; omega)) hnd).2 hzm;have hlt: ∀x,x∈T->x<L.length:=fun x hx=>((hTm x).1 hx).1;have hb2:treeB n L (zI T)=true:=by rw [B9m hp]; exact hb
 have h3:=(A6v h0 hL hlt).1 hb2;refine ⟨T,A3s.2 ⟨hTs,hlt,h3.1,h3.2⟩,?_⟩;funext e;unfold A8N;rw [Qz1,decide_eq_true_eq,decide_eq_true_eq];exact hzm _
theorem B0a {r:R} (hr:ROk r) {T:List Nat} (hT:T∈treesG r.g):(∀x,x∈zI T->0≤x∧x<((endsL r.es).length:Int))∧treeB r.n.toNat (endsL r.es) (zI T)=true:=by
 obtain ⟨h1,h2,h3,h4⟩:=A3s.1 hT;exact ⟨fun x hx=>by obtain ⟨a,ha,rfl⟩:=Xq.1 hx; have:=h2 a ha; have e:(endsL r.g.es).length=(endsL r.es).length:=rfl; omega,(A6v (A4G hr) (B0I hr) h2).2 ⟨h3,h4⟩⟩
set_option maxHeartbeats 2000000
theorem C1j {r:R} (hr:ROk r) {M:Nat->Nat->Int} (hM:Mult r.n.toNat M) (hJ:Joins (endsL r.es).length r.n.toNat (gR (endsL r.es)) M): ∃T,T∈treesG r.g:=by
 have hq:=A4G hr;have hA:=B46 hr;have hR:=C4h hM hq (A89 hr).lt hA hJ;obtain ⟨R0,hR0⟩:=B5P hR hM;have hp: ∀v,v<r.n.toNat->v≠0->0<(arN r v).length:=fun v hv hn=>by rw [<-C4i (g:=gR (endsL r.es))]; exact hR.pos v hv hn
 have hH: ∀v,v<r.n.toNat->v≠0->C0O (arN r) R0 v<2*(endsL r.es).length∧gR (endsL r.es) (C0O (arN r) R0 v)=v:=fun v hv hn=>C0P hA R0 hv (hp v hv hn);have ht:=B5O hq (A5e hr) hH ((B83 hp).1 hR0);have hrange: ∀y,y∈A8B r.n.toNat 0 (C0O (arN r) R0)->0≤y∧y<((endsL r.es).length:Int):=fun y hy=>by
  obtain ⟨v,hv,hn,rfl⟩:=B1Z.1 hy;have:=(hH v hv hn).1;omega
 obtain ⟨T,hT,-⟩:=B9p hq (B0I hr) (A5e hr) hrange ht;exact ⟨T,hT⟩
theorem B9q {g:G} (h:A0s g=0):Mult g.n.toNat (mulE g.es)∧Joins (endsL g.es).length g.n.toNat (gR (endsL g.es)) (mulE g.es):=by
 obtain ⟨hc,hcon⟩:=A1w h;have h12:=(A0j.1 hc).1;exact ⟨(C2D hc (n:=g.n.toNat) (by omega) hcon).2,B8F (B9o h)⟩
set_option maxHeartbeats 2000000
theorem B6j (d x:List Int) (hd:d.length<2^40) (hx:x.length<2^40):ACall Tryz.prog 66 [A0n x,.t (.rptr [.slice (A0o d)])] (A0v (decide (x=d))):=by
 have hE:=A87 x d hx hd;generalize decide (x=d)=b at*;refine ACall.of_body Tryz.func66 rfl (by kernel_rfl) ?_;simp only [entry,Tryz.ntmps66,A0n];refine zU ?_;refine zR Qw8 (zc hE Qw8) Qw8 ?_;simp [A0z,A0y,Blk.cells,ty,Tryz.results66,A0t,A0u,toT,A0d,A0b,A0c,A0a,A0v]
noncomputable def trE (r:R) (d:List Int):Int:=if ribE r≠0 then ribE r else if B0X d r.n≠0 then B0X d r.n else if B6a r.g d=true then 0 else 15
noncomputable def trT (r:R) (d:List Int):Option (List Int):=C1f r (fun x=>decide (x=d)) (tI (treesG r.g))
theorem A2Z {r:R} (hr:ROk r) {t:List Int} (h:t∈tI (treesG r.g)):RTree r t∧t.length+1=r.n.toNat:=by
 obtain ⟨T,hT,rfl⟩:=Xq.1 h;obtain ⟨h1,h2⟩:=B0a hr hT;have h3:=(A3s.1 hT).2.2.1;exact ⟨⟨hr,h1,h2⟩,by rw [XW]; exact h3⟩
theorem B9r (r:R) (d:List Int) (hs:RSm r) (hT:ribE r=0->(treesG r.g).length≤16384) (hdl:d.length<2^40) (hok:ribE r=0->ROk r):
  ACall Tryz.prog 20 [tR r,A0n d] (.tup [A0n (if trE r d≠0 then [] else B6e (trT r d)),A0m (if trE r d≠0 then trE r d else B6f (trT r d))]):=by
 have hR:=B1Y r hs;have hC:=A8F d r.n hdl;unfold trE;by_cases h0:ribE r=0
 ·rw [if_neg (show ¬ribE r≠0 by omega)];rw [h0] at hR;have hrk:=hok h0;have h12:1≤r.n∧r.n≤12:=(A0j.1 hrk.c).1;by_cases h1:B0X d r.n=0
  ·rw [if_neg (show ¬B0X d r.n≠0 by omega)];rw [h1] at hC;obtain ⟨n,hn⟩: ∃n:Nat,r.n=n:=⟨r.n.toNat,by omega⟩;rw [hn] at h1;obtain ⟨q1,q2,q3,q4⟩:=B0J h1;have hB:=B2e r.g d (B8X hrk.c hs.es) h12 hs.es (by show d.length=r.n.toNat; omega) (fun v _=>by have:=q4 v; omega);by_cases hb:B6a r.g d=true
   ·rw [hb] at hB;rw [if_pos hb];have hj:A0s r.g=0:=by unfold A0s; rw [if_neg (by have:=hrk.c; omega),if_pos hrk.conn]
    have hA:=B36 r.g hs.es (hT h0);rw [hj] at hA;have hF:=B9h r hs (tI (treesG r.g)) (by rw [B2n]; have:=hT h0; omega) (fun t ht=>⟨(A2Z hrk ht).1,by have:=(A2Z hrk ht).2; omega⟩) 66 [.slice (A0o d)] (fun x=>decide (x=d)) (fun t _=>B6j d _ hdl (by rw [B4G]; omega));have hF2:ACall Tryz.prog 65 [tR r,A0N (tI (treesG r.g)),.t (.fn 66 [.rptr [.slice (A0o d)]])] (.tup [A0n (B6e (trT r d)),A0m (B6f (trT r d))]):=hF;have hA2:ACall Tryz.prog 25 [tG r.g] (.tup [A0N (tI (treesG r.g)),A0m 0]):=hA;have e0:(if (0:Int)≠0 then ([]:List Int) else B6e (trT r d))=B6e (trT r d):=if_neg (by simp);have e1:(if (0:Int)≠0 then 0 else B6f (trT r d))=B6f (trT r d):=if_neg (by simp);rw [e0,e1];clear hF hA;generalize B6e (trT r d)=V at*;generalize B6f (trT r d)=W at*;generalize tI (treesG r.g)=Ts at*;obtain ⟨n',es,ar⟩:=r;have hB2:ACall Tryz.prog 64 [tG ⟨n',es⟩,A0n d] (A0v true):=hB;have hA3:ACall Tryz.prog 25 [tG ⟨n',es⟩] (.tup [A0N Ts,A0m 0]):=hA2;refine ACall.of_body Tryz.func20 rfl (by kernel_rfl) ?_;simp only [entry,Tryz.ntmps20,tR,A0n];refine zU ?_;refine zJ (stop 1) trivial trivial trivial trivial ?_;refine AWp.freezeP 3 1 rfl rfl (ts:=[.slice (A0o d)]) rfl ?_;simp only [List.set_cons_succ,List.set_cons_zero];refine zR Qw8 (zc hR (zc hC (zc hB2 (zc hA3 (zc hF2 Qw8))))) Qw8 ?_;simp [A0z,A0y,Blk.cells,ty,Tryz.results20,A0t,A0u,toT,A0d,A0b,A0c,A0a,A0m,A0n]
   ·have hb:B6a r.g d=false:=by simpa using hb
    rw [hb] at hB;rw [hb];obtain ⟨n',es,ar⟩:=r;have hB2:ACall Tryz.prog 64 [tG ⟨n',es⟩,A0n d] (A0v false):=hB;refine ACall.of_body Tryz.func20 rfl (by kernel_rfl) ?_;simp only [entry,Tryz.ntmps20,tR,A0n];refine zU ?_;refine zR Qw8 (zc hR (zc hC (zc hB2 Qw8))) Qw8 ?_;simp [A0z,A0y,Blk.cells,ty,Tryz.results20,A0t,A0u,toT,A0d,A0b,A0c,A0a,A0m,A0n,A0o]
  ·rw [if_pos h1,if_pos h1,if_pos h1];generalize B0X d r.n=e at*;obtain ⟨n',es,ar⟩:=r;refine ACall.of_body Tryz.func20 rfl (by kernel_rfl) ?_;simp only [entry,Tryz.ntmps20,tR,A0n];refine zU ?_;refine zR (zc @h1 Qw8) (zc hR (zc hC Qw8)) Qw8 ?_;simp [A0z,A0y,Blk.cells,ty,Tryz.results20,A0t,A0u,toT,A0d,A0b,A0c,A0a,A0m,A0n,A0o]
 ·rw [if_pos h0,if_pos h0,if_pos h0];generalize ribE r=e at*;obtain ⟨n',es,ar⟩:=r;refine ACall.of_body Tryz.func20 rfl (by kernel_rfl) ?_;simp only [entry,Tryz.ntmps20,tR,A0n];refine zU ?_;refine zR (zc @h0 Qw8) (zc hR Qw8) Qw8 ?_;simp [A0z,A0y,Blk.cells,ty,Tryz.results20,A0t,A0u,toT,A0d,A0b,A0c,A0a,A0m,A0n,A0o]
end Go.Proofs.YtdbdfkohpjefjaaGreat
namespace Go.Proofs.YtdbdfkohpjefjaaGreat
open Go.Sp Go.RowKit
open Go.Sort (SWO)
set_option maxHeartbeats 1000000
theorem C3l (a b:List Int) (ha:a.length<2^40) (hb:b.length<2^40):ACall Tryz.prog 80 [A0n a,A0n b] (A0m (A1K a b)):=by
 have hC:=B3q a b ha hb;generalize A1K a b=c at*;refine ACall.of_body Tryz.func80 rfl (by kernel_rfl) ?_;simp only [entry,Tryz.ntmps80,A0n];refine zU ?_;refine zR Qw8 (zc hC Qw8) Qw8 ?_;simp [A0z,A0y,Blk.cells,ty,Tryz.results80,A0t,A0u,toT,A0d,A0b,A0c,A0a,A0m]
theorem A4K (a b:List Int):Go.Proofs.ltOf A1K a b=A1H a b:=by
 unfold Go.Proofs.ltOf;cases h:A1H a b with
 | true=>rw [decide_eq_true_eq]; exact (B0H a b).1 h
 | false=>rw [decide_eq_false_iff_not]; intro q; rw [(B0H a b).2 q] at h; cases h
theorem C3m:SWO (Go.Proofs.ltOf A1K) where
 irrefl x:=by rw [A4K]; exact B5U x
 trans x y z:=by
  rw [A4K,A4K,A4K];intro h1 h2;rw [<-Bool.not_eq_false];intro h;have h3:=A3F _ _ _ (A1Z _ _ h1) (A1Z _ _ h2);have:=B0F _ _ h h3;subst this;rw [A1Z _ _ h1] at h2; cases h2
 ntrans x y z:=by
  rw [A4K,A4K,A4K];intro h1 h2;exact A3F _ _ _ h2 h1
def C4w (l:List (List Int)) (i j:Fin l.length):Int:=A1K l[i] l[j]
theorem C4x (l:List (List Int)):SWO (Go.Proofs.ltOf (C4w l)) where
 irrefl x:=C3m.irrefl _
 trans x y z:=C3m.trans _ _ _
 ntrans x y z:=C3m.ntrans _ _ _
theorem B4J (l:List (List Int)):(List.finRange l.length).map (fun i=>l[i])=l:=by
 apply Qz5
 ·simp
 ·intro i p q; simp
theorem B9s (l:List (List Int)):(A5O (C4w l) (List.finRange l.length)).map (fun i=>l[i])=sortLL l:=by
 obtain ⟨h1,h2⟩:=B2H (C4x l) (List.finRange l.length);have h3:=h1.map fun i=>l[i];rw [B4J] at h3;refine A6n ?_ h3;rw [Jj,YX];intro i j hi hj hij;have:=h2 i j _ _ hij (Qq hi) (Qq hj);have e:Go.Proofs.ltOf (C4w l)=fun i j=>Go.Proofs.ltOf A1K l[i] l[j]:=rfl;rw [e] at this;simp only at this;rwa [A4K] at this
theorem C3n: ∀args w,(callFunc 28 args).run Tryz.prog w= .ok (.enter 28 args) w:=Go.Proofs.enters_of Tryz.func28 (by kernel_rfl) rfl
theorem B9t (f:FuncId) (hf: ∀a b:List Int,a.length<2^40->b.length<2^40->ACall Tryz.prog f [A0n a,A0n b] (A0m (A1K a b))) (l:List (List Int)) (hpos:0<l.length) (hl:l.length<2^40) (hB: ∀B,B∈l->B.length<2^40) {H:List Blk} {id cap:Nat} (hid:H[id]? =some (.box (sC l))):
  ACallH Tryz.prog 28 H [.c (.ref id 1 0 l.length cap),.c (.fn f [])] (H.set id (.box (sC (sortLL l)))) (.tup []):=by
 have hb: ∀i:Fin l.length,l[i].length<2^40:=fun i=>hB _ (Xv i.isLt)
 have h:=A8W (cap:=cap) laySortL (fun i:Fin l.length=>A0o l[i]) (C4w l) (C4x l) f (fun x y=>hf l[x] l[y] (hb x) (hb y)) C3n (List.finRange l.length) (by simpa using hpos) (by simp; omega) (
  by
  rw [hid]; congr 2;conv=>lhs; rw [<-B4J l]
  unfold sC
  rw [VQ]; rfl)
 have e:(A5O (C4w l) (List.finRange l.length)).map (fun i=>ACell.slice (A0o l[i]) .none)=sC (sortLL l):=by
  rw [<-B9s]; unfold sC; rw [VQ]; rfl
 rw [List.length_finRange] at h;rw [<-e];exact h
theorem C1k (l:List (List Int)) (hpos:0<l.length) (hl:l.length<2^40) (hB: ∀B,B∈l->B.length<2^40) {H:List Blk} {id cap:Nat} (hid:H[id]? =some (.box (sC l))):
  ACallH Tryz.prog 28 H [.c (.ref id 1 0 l.length cap),.c (.fn 80 [])] (H.set id (.box (sC (sortLL l)))) (.tup []):=B9t _ C3l l hpos hl hB hid
end Go.Proofs.YtdbdfkohpjefjaaGreat
