/- A part of the proof. -/
import Derived.Test.YtdbdfkohpjefjaaGreatPart28
import Derived.Test.YtdbdfkohpjefjaaGreatPart27
import Derived.Test.YtdbdfkohpjefjaaGreatPart29
set_option linter.all false
set_option maxHeartbeats 4000000
set_option maxRecDepth 100000
namespace Go.Proofs.YtdbdfkohpjefjaaGreat
open Go.Sp
variable {L:List (Int×Int)} {T:List Nat} {M:Nat->Nat->Int}
section
def C3h (t a b:List Int):A1R (t++a) (t++b)=A1R a b:=by
 induction t with
 | nil=>rfl
 | cons x t ih=>show (if x=x then A1R (t++a) (t++b) else decide (x<x))=_; rw [if_pos rfl,ih]
def A5j {n:Nat}: ∀{k:Nat} {t:List Nat} {e:Nat},acyc (pkN L t)->(A1A n L k t e).Pairwise fun a b=>A1R (zI b) (zI a)=false
 | 0,t,e,ha=>by unfold A1A; split<;>simp
 | k +1,t,e,ha=>by
  unfold A1A;split
  ·simp
  ·rename_i hn;rw [Qx4];refine ⟨?_,A5j ha,fun A hA B hB=> ?_⟩
   ·split
    ·rename_i h; exact A5j h
    ·simp
   ·split at hA
    ·rename_i h;obtain ⟨s,rfl,-⟩:=(A4b h).1 hA;obtain ⟨s2,rfl,-,h2,h3,-⟩:=(A4b ha).1 hB;have e1:zI (t++[e]++s)=zI t++((e:Int)::zI s):=by simp [zI]
     have e2:zI (t++s2)=zI t++zI s2:=by simp [zI]
     rw [e1,e2];refine A2j _ _ ?_;rw [C3h];cases s2 with
     | nil=>rw [WZ] at h3; exact absurd h3 hn
     | cons x s2=>
      have:=(h2 x (by simp)).1;show (if (e:Int)=(x:Int) then _ else decide ((e:Int)<(x:Int)))=true;rw [if_neg (by omega),decide_eq_true (by omega)]
    ·cases hA
def A2m {n:Nat}:T∈allT n L↔T.Pairwise (·< ·)∧(∀x,x∈T->x<L.length)∧T.length+1=n∧acyc (pkN L T):=by
 unfold allT;rw [A4b (show acyc (pkN L []) from A3E)];constructor
 ·rintro ⟨s,rfl,h1,h2,h3,h4⟩;exact ⟨h1,fun x hx=>by have:=h2 x hx; omega,h3,h4⟩
 ·rintro ⟨h1,h2,h3,h4⟩;exact ⟨T,rfl,h1,fun x hx=>by have:=h2 x hx; omega,h3,h4⟩
def A6U {n:Nat} (h0:0<n) (hL:InN n L) (hT: ∀x,x∈T->x<L.length):treeB n L (zI T)=true↔T.length+1=n∧acyc (pkN L T):=by
 have hpk:pkN L T=pkL L (zI T):=C0e L T;have hin:=A94 hL (t:=zI T) fun x hx=>by
  obtain ⟨a,ha,rfl⟩:=QJ.1 hx;have:=hT a ha; omega
 have hn:=(A4u (pkL L (zI T)) hin).2;rw [hpk,hn];unfold treeB;rw [decide_eq_true_eq,A3C,A2x,A3C];omega
def C0Z {n:Nat} {t u:List Int} (h:t.Perm u):treeB n L t=treeB n L u:=by
 have hl:=h.length_eq;have hc: ∀x y,Conn (pkL L t) x y↔Conn (pkL L u) x y:=fun x y=>by
  have hm: ∀p,p∈pkL L t↔p∈pkL L u:=fun p=>(h.map _).mem_iff;exact ⟨Conn.mono fun p hp=>(hm p).1 hp,Conn.mono fun p hp=>(hm p).2 hp⟩
 unfold treeB;rw [hl,A2u fun x y _ _=>hc x y]
def C52 {E w w':Nat} (h1:w<2^E) (h2:w'<2^E) (h:setN E w=setN E w'):w=w':=by
 refine Nat.eq_of_testBit_eq fun i=> ?_;by_cases hi:i<E
 ·have key: ∀v,i∈setN E v↔v.testBit i=true:=fun v=>by
   unfold setN;rw [Yq,Xy,decide_eq_true_eq,A4c];exact ⟨fun q=>q.2,fun q=>⟨hi,q⟩⟩
  have:=key w;rw [h,key w'] at this;rw [Qj9]; exact this.symm
 ·have hp:2^E≤2^i:=Qj0 (by omega) (by omega);rw [Qx9 (by omega),Qx9 (by omega)]
def C1a: ∀{a b:List Nat},zI a=zI b->a=b
 | [],[],_=>rfl
 | [],_::_,h=>by simp [zI] at h
 | _::_,[],h=>by simp [zI] at h
 | x::a,y::b,h=>by
  have h1:((x:Int)::zI a)=(y:Int)::zI b:=h;injection h1 with h2 h3;rw [C1a h3,Int.ofNat.inj h2]
def B0Y (g:G): ∀m,m≤2^(endsL g.es).length->(A4w g m).Nodup
 | 0,_=>by simp [A4w]
 | m+1,h=>by
  have ih:=B0Y g m (by omega);unfold A4w;split
  ·rw [Wj];refine ⟨ih,by simp,fun a ha b hb e=> ?_⟩;rw [Zq] at hb;subst e;obtain ⟨w,hw,q,-⟩:=A8w.1 ha;have:=C52 (by omega) (by omega) (C1a (hb.symm.trans q));omega
  ·exact ih
def C6E {E:Nat} (hs:T.Pairwise (·< ·)) (hT: ∀x,x∈T->x<E): ∃w,w<2^E∧T=setN E w:=by
 refine ⟨A8a (fun v=>decide (v∈T)) E,A8u _ _,?_⟩;have hs2:(setN E (A8a (fun v=>decide (v∈T)) E)).Pairwise (·< ·):=List.pairwise_lt_range.filter _;refine Qj2 (le:=(·< ·)) (fun a b _ _ q1 q2=>by omega) hs hs2 ?_;refine (WJ (hs.imp fun h=>Qz1 h) (hs2.imp fun h=>Qz1 h)).2 fun x=> ?_;unfold setN;rw [Yq,Xy,decide_eq_true_eq,A4c];constructor
 ·intro hx;have:=hT x hx;exact ⟨this,by rw [A2X _ _ _ this]; exact decide_eq_true hx⟩
 ·rintro ⟨hx,h⟩;rw [A2X _ _ _ hx] at h;exact of_decide_eq_true h
def C3i {g:G} (hc:checkG g=0):tI (treesG g)=A9F g:=by
 have h12:=(A0j.1 hc).1;obtain ⟨n,hn⟩: ∃n:Nat,g.n=n:=⟨g.n.toNat,by omega⟩;have hIn:InN n (endsL g.es):=fun p hp=>by have:=A2i hc hn p hp; omega
 have htI:tI (treesG g)=(treesG g).map zI:=rfl;unfold A9F;have hnd:(allT n (endsL g.es)).Nodup:=A6c (show acyc (pkN (endsL g.es) []) from A3E);have hgt:treesG g=allT n (endsL g.es):=by unfold treesG; rw [show g.n.toNat=n by omega]
 rw [htI,hgt];refine A5e ?_ ?_
 ·rw [JQ];exact A5j (show acyc (pkN (endsL g.es) []) from A3E)
 ·refine (WJ (JQ.2 (hnd.imp fun {a b} hab e=>hab (C1a e))) (B0Y g _ (QQ _))).2 fun x=> ?_;rw [QJ,A8w];constructor
  ·rintro ⟨T,hT,rfl⟩;obtain ⟨h1,h2,h3,h4⟩:=A2m.1 hT;obtain ⟨w,hw,rfl⟩:=C6E h1 h2;exact ⟨w,hw,rfl,by rw [show g.n.toNat=n by omega]; exact (A6U (by omega) hIn h2).2 ⟨h3,h4⟩⟩
  ·rintro ⟨w,hw,rfl,ht⟩;have hT: ∀x,x∈setN (endsL g.es).length w->x<(endsL g.es).length:=fun x hx=>by
    unfold setN at hx;exact Xy.1 (Yq.1 hx).1
   rw [show g.n.toNat=n by omega] at ht;have h2:=(A6U (by omega) hIn hT).1 ht;exact ⟨_,A2m.2 ⟨List.pairwise_lt_range.filter _,hT,h2.1,h2.2⟩,rfl⟩
def B7B (g:G):R:=⟨g.n,g.es,A1l (endsL g.es) g.n.toNat (2*(endsL g.es).length)⟩
def C53 (L:List (Int×Int)) (v:Int) (k:Nat):(ownL L v k).Nodup:=by
 unfold ownL;exact JQ.2 ((List.pairwise_lt_range.filter _).imp fun {a b} h e=>by have:a=b:=Int.ofNat.inj e; omega)
def B4T {g:G} (h:A0t g=0):ROk (B7B g):=by
 obtain ⟨hc,hcon⟩:=A3G h;have h12:=(A0j.1 hc).1;refine ⟨hc,hcon,?_,fun i l hl=> ?_⟩
 ·show ((A1l (endsL g.es) g.n.toNat (2*(endsL g.es).length)).length:Int)=g.n;rw [A0J]; omega
 ·have hl:(A1l (endsL g.es) g.n.toNat (2*(endsL g.es).length))[i]? =some l:=hl;have hi:i<g.n.toNat:=by have:=(Qx.1 hl).1; rwa [A0J] at this
  rw [A3m hi] at hl;cases hl;exact ⟨C53 _ _ _,fun _ h=>h,fun _ h=>h,rfl,.inr rfl⟩
def B34 {n:Nat} {g:Nat->Nat} (h0:0<n) (hL:InN n L) (hg:B1B L g) {t:List Int} (ht: ∀x,x∈t->0≤x∧x<(L.length:Int)) (hb:treeB n L t=true): ∃T,T∈allT n L∧A4a (zI T)=A4a t:=by
 have hnd:t.Nodup:=by
  unfold treeB at hb;obtain ⟨hl,hc⟩:=of_decide_eq_true hb;have hac:acyc (pkL L t):=(A4u _ (A94 hL ht)).2.2 (by rw [hc,A2x]; omega);exact A74 hg hac ht
 let T:=setN L.length (A8a (A4a t) L.length);have hTs:T.Pairwise (·< ·):=List.pairwise_lt_range.filter _;have hTm: ∀x:Nat,x∈T↔x<L.length∧(x:Int)∈t:=fun x=>by
  show x∈(List.range L.length).filter _↔_;rw [Yq,Xy,decide_eq_true_eq,A4c];constructor
  ·rintro ⟨h,q⟩;rw [A2X _ _ _ h] at q;exact ⟨h,of_decide_eq_true q⟩
  ·rintro ⟨h,q⟩;exact ⟨h,by rw [A2X _ _ _ h]; exact decide_eq_true q⟩
 have hzm: ∀x,x∈zI T↔x∈t:=fun x=>by
  constructor
  ·intro h;obtain ⟨a,ha,rfl⟩:=QJ.1 h;exact ((hTm a).1 ha).2
  ·intro h;have:=ht x h;refine QJ.2 ⟨x.toNat,(hTm _).2 ⟨by omega,?_⟩,by show ((x.toNat:Nat):Int)=x; omega⟩;rw [show ((x.toNat:Nat):Int)=x by omega]; exact h
 have hp:(zI T).Perm t:=(WJ (JQ.2 (hTs.imp fun {a b} h e=>by have:a=b:=Int.ofNat.inj e; omega)) hnd).2 hzm;have hlt: ∀x,x∈T->x<L.length:=fun x hx=>((hTm x).1 hx).1;have hb2:treeB n L (zI T)=true:=by rw [C0Z hp]; exact hb
 have h3:=(A6U h0 hL hlt).1 hb2;refine ⟨T,A2m.2 ⟨hTs,hlt,h3.1,h3.2⟩,?_⟩;funext e;unfold A4a;rw [Qj9,decide_eq_true_eq,decide_eq_true_eq];exact hzm _
def A2Y {r:R} (hr:ROk r) (hT:T∈treesG r.g):(∀x,x∈zI T->0≤x∧x<((endsL r.es).length:Int))∧treeB r.n.toNat (endsL r.es) (zI T)=true:=by
 obtain ⟨h1,h2,h3,h4⟩:=A2m.1 hT;exact ⟨fun x hx=>by obtain ⟨a,ha,rfl⟩:=QJ.1 hx; have:=h2 a ha; have e:(endsL r.g.es).length=(endsL r.es).length:=rfl; omega,(A6U (A2k hr) (A99 hr) h2).2 ⟨h3,h4⟩⟩
def B1R {r:R} (hr:ROk r) (hM:Mult r.n.toNat M) (hJ:Joins (endsL r.es).length r.n.toNat (gR (endsL r.es)) M): ∃T,T∈treesG r.g:=by
 have hq:=A2k hr;have hA:=B1E hr;have hR:=C3D hM hq (A2K hr).lt hA hJ;obtain ⟨R0,hR0⟩:=B0M hR hM;have hp: ∀v,v<r.n.toNat->v≠0->0<(arN r v).length:=fun v hv hn=>by rw [<-C0o (g:=gR (endsL r.es))]; exact hR.pos v hv hn
 have hH: ∀v,v<r.n.toNat->v≠0->A7O (arN r) R0 v<2*(endsL r.es).length∧gR (endsL r.es) (A7O (arN r) R0 v)=v:=fun v hv hn=>A8s hA R0 hv (hp v hv hn);have ht:=B0L hq (A2R hr) hH ((A6K hp).1 hR0);have hrange: ∀y,y∈A4v r.n.toNat 0 (A7O (arN r) R0)->0≤y∧y<((endsL r.es).length:Int):=fun y hy=>by
  obtain ⟨v,hv,hn,rfl⟩:=A5d.1 hy;have:=(hH v hv hn).1;omega
 obtain ⟨T,hT,-⟩:=B34 hq (A99 hr) (A2R hr) hrange ht;exact ⟨T,hT⟩
def BrkD.congr {E n:Nat} {g:Nat->Nat} {D D':Nat->Int} (h:BrkD E n g D) (he: ∀v,v<n->D v=D' v):BrkD E n g D':=by
 refine ⟨?_,fun A hA=> ?_⟩
 ·rw [<-A0g he]; exact h.deg
 ·have h1:=h.low A hA;have e:sumR (fun v=>if A v=true then D v else 0) n=sumR (fun v=>if A v=true then D' v else 0) n:=A0g fun v hv=>by rw [he v hv]
  rw [e] at h1; exact h1
def C1b {g:G} (h:A0t g=0):Mult g.n.toNat (mulE g.es)∧Joins (endsL g.es).length g.n.toNat (gR (endsL g.es)) (mulE g.es):=by
 obtain ⟨hc,hcon⟩:=A3G h;have h12:=(A0j.1 hc).1;exact ⟨(C0g hc (n:=g.n.toNat) (by omega) hcon).2,B3m (B4T h)⟩
def B7C (d x:List Int) (hd:d.length<2^40) (hx:x.length<2^40):ACall Tryz.prog 66 [A0q x,.t (.rptr [.slice (A0p d)])] (A0x (decide (x=d))):=by
 have hE:=A9y x d hx hd;generalize decide (x=d)=b at*;refine ACall.of_body Tryz.func66 rfl (by kernel_rfl) ?_;simp only [entry,Tryz.ntmps66,A0q];refine zU ?_;refine zR Qv6 (zc hE Qv6) Qv6 ?_;simp [A00,A0z,Blk.cells,ty,Tryz.results66,A0v,A0w,toT,A0d,A0b,A0c,A0a,A0x]
noncomputable def trE (r:R) (d:List Int):Int:=if ribE r≠0 then ribE r else if B7U d r.n≠0 then B7U d r.n else if C3a r.g d=true then 0 else 15
noncomputable def trT (r:R) (d:List Int):Option (List Int):=C3e r (fun x=>decide (x=d)) (tI (treesG r.g))
def A2y {r:R} (hr:ROk r) {t:List Int} (h:t∈tI (treesG r.g)):RTree r t∧t.length+1=r.n.toNat:=by
 obtain ⟨T,hT,rfl⟩:=QJ.1 h;obtain ⟨h1,h2⟩:=A2Y hr hT;have h3:=(A2m.1 hT).2.2.1;exact ⟨⟨hr,h1,h2⟩,by rw [XW]; exact h3⟩
def B35 (r:R) (d:List Int) (hs:RSm r) (hT:ribE r=0->(treesG r.g).length≤16384) (hdl:d.length<2^40) (hok:ribE r=0->ROk r):
  ACall Tryz.prog 20 [tR r,A0q d] (.tup [A0q (if trE r d≠0 then [] else B77 (trT r d)),A0n (if trE r d≠0 then trE r d else B78 (trT r d))]):=by
 have hR:=B3h r hs;have hC:=B3r d r.n hdl;unfold trE;by_cases h0:ribE r=0
 ·rw [if_neg (show ¬ribE r≠0 by omega)];rw [h0] at hR;have hrk:=hok h0;have h12:1≤r.n∧r.n≤12:=(A0j.1 hrk.c).1;by_cases h1:B7U d r.n=0
  ·rw [if_neg (show ¬B7U d r.n≠0 by omega)];rw [h1] at hC;obtain ⟨n,hn⟩: ∃n:Nat,r.n=n:=⟨r.n.toNat,by omega⟩;rw [hn] at h1;obtain ⟨q1,q2,q3,q4⟩:=C5p h1;have hB:=C0J r.g d (C68 hrk.c hs.es) h12 hs.es (by show d.length=r.n.toNat; omega) (fun v _=>by have:=q4 v; omega);by_cases hb:C3a r.g d=true
   ·rw [hb] at hB;rw [if_pos hb];have hj:A0t r.g=0:=by unfold A0t; rw [if_neg (by have:=hrk.c; omega),if_pos hrk.conn]
    have hA:=B1M r.g hs.es (hT h0);rw [hj] at hA;have hF:=C0T r hs (tI (treesG r.g)) (by rw [B0S]; have:=hT h0; omega) (fun t ht=>⟨(A2y hrk ht).1,by have:=(A2y hrk ht).2; omega⟩) 66 [.slice (A0p d)] (fun x=>decide (x=d)) (fun t _=>B7C d _ hdl (by rw [A2S]; omega));have hF2:ACall Tryz.prog 65 [tR r,A0S (tI (treesG r.g)),.t (.fn 66 [.rptr [.slice (A0p d)]])] (.tup [A0q (B77 (trT r d)),A0n (B78 (trT r d))]):=hF;have hA2:ACall Tryz.prog 25 [tG r.g] (.tup [A0S (tI (treesG r.g)),A0n 0]):=hA;have e0:(if (0:Int)≠0 then ([]:List Int) else B77 (trT r d))=B77 (trT r d):=if_neg (by simp);have e1:(if (0:Int)≠0 then 0 else B78 (trT r d))=B78 (trT r d):=if_neg (by simp);rw [e0,e1];clear hF hA;generalize B77 (trT r d)=V at*;generalize B78 (trT r d)=W at*;generalize tI (treesG r.g)=Ts at*;obtain ⟨n',es,ar⟩:=r;have hB2:ACall Tryz.prog 64 [tG ⟨n',es⟩,A0q d] (A0x true):=hB;have hA3:ACall Tryz.prog 25 [tG ⟨n',es⟩] (.tup [A0S Ts,A0n 0]):=hA2;refine ACall.of_body Tryz.func20 rfl (by kernel_rfl) ?_;simp only [entry,Tryz.ntmps20,tR,A0q];refine zU ?_;refine zJ (stop 1) trivial trivial trivial trivial ?_;refine AWp.freezeP 3 1 rfl rfl (ts:=[.slice (A0p d)]) rfl ?_;simp only [List.set_cons_succ,List.set_cons_zero];refine zR Qv6 (zc hR (zc hC (zc hB2 (zc hA3 (zc hF2 Qv6))))) Qv6 ?_;simp [A00,A0z,Blk.cells,ty,Tryz.results20,A0v,A0w,toT,A0d,A0b,A0c,A0a,A0n,A0q]
   ·have hb:C3a r.g d=false:=by simpa using hb
    rw [hb] at hB;rw [hb];obtain ⟨n',es,ar⟩:=r;have hB2:ACall Tryz.prog 64 [tG ⟨n',es⟩,A0q d] (A0x false):=hB;refine ACall.of_body Tryz.func20 rfl (by kernel_rfl) ?_;simp only [entry,Tryz.ntmps20,tR,A0q];refine zU ?_;refine zR Qv6 (zc hR (zc hC (zc hB2 Qv6))) Qv6 ?_;simp [A00,A0z,Blk.cells,ty,Tryz.results20,A0v,A0w,toT,A0d,A0b,A0c,A0a,A0n,A0q,A0p]
  ·rw [if_pos h1,if_pos h1,if_pos h1];generalize B7U d r.n=e at*;obtain ⟨n',es,ar⟩:=r;refine ACall.of_body Tryz.func20 rfl (by kernel_rfl) ?_;simp only [entry,Tryz.ntmps20,tR,A0q];refine zU ?_;refine zR (zc @h1 Qv6) (zc hR (zc hC Qv6)) Qv6 ?_;simp [A00,A0z,Blk.cells,ty,Tryz.results20,A0v,A0w,toT,A0d,A0b,A0c,A0a,A0n,A0q,A0p]
 ·rw [if_pos h0,if_pos h0,if_pos h0];generalize ribE r=e at*;obtain ⟨n',es,ar⟩:=r;refine ACall.of_body Tryz.func20 rfl (by kernel_rfl) ?_;simp only [entry,Tryz.ntmps20,tR,A0q];refine zU ?_;refine zR (zc @h0 Qv6) (zc hR Qv6) Qv6 ?_;simp [A00,A0z,Blk.cells,ty,Tryz.results20,A0v,A0w,toT,A0d,A0b,A0c,A0a,A0n,A0q,A0p]
open Go.Sp Go.RowKit
open Go.Sort (SWO)
def C54 (a b:List Int) (ha:a.length<2^40) (hb:b.length<2^40):ACall Tryz.prog 80 [A0q a,A0q b] (A0n (A1M a b)):=by
 have hC:=A9x a b ha hb;generalize A1M a b=c at*;refine ACall.of_body Tryz.func80 rfl (by kernel_rfl) ?_;simp only [entry,Tryz.ntmps80,A0q];refine zU ?_;refine zR Qv6 (zc hC Qv6) Qv6 ?_;simp [A00,A0z,Blk.cells,ty,Tryz.results80,A0v,A0w,toT,A0d,A0b,A0c,A0a,A0n]
def A5k (a b:List Int):Go.Proofs.ltOf A1M a b=A1R a b:=by
 unfold Go.Proofs.ltOf;cases h:A1R a b with
 | true=>rw [decide_eq_true_eq]; exact (B1L a b).1 h
 | false=>rw [decide_eq_false_iff_not]; intro q; rw [(B1L a b).2 q] at h; cases h
def C55:SWO (Go.Proofs.ltOf A1M) where
 irrefl x:=by rw [A5k]; exact B7q x
 trans x y z:=by
  rw [A5k,A5k,A5k];intro h1 h2;rw [<-Bool.not_eq_false];intro h;have h3:=A3Z _ _ _ (A2j _ _ h1) (A2j _ _ h2);have:=B1D _ _ h h3;subst this;rw [A2j _ _ h1] at h2; cases h2
 ntrans x y z:=by
  rw [A5k,A5k,A5k];intro h1 h2;exact A3Z _ _ _ h2 h1
def C6F (l:List (List Int)) (i j:Fin l.length):Int:=A1M l[i] l[j]
def C6G (l:List (List Int)):SWO (Go.Proofs.ltOf (C6F l)) where
 irrefl x:=C55.irrefl _
 trans x y z:=C55.trans _ _ _
 ntrans x y z:=C55.ntrans _ _ _
def B6l (l:List (List Int)):(List.finRange l.length).map (fun i=>l[i])=l:=by
 apply Qq6
 ·simp
 ·intro i p q; simp
def C1c (l:List (List Int)):(A6t (C6F l) (List.finRange l.length)).map (fun i=>l[i])=sortLL l:=by
 obtain ⟨h1,h2⟩:=B3V (C6G l) (List.finRange l.length);have h3:=h1.map fun i=>l[i];rw [B6l] at h3;refine A5e ?_ h3;rw [JQ,ZV];intro i j hi hj hij;have:=h2 i j _ _ hij (Qq hi) (Qq hj);have e:Go.Proofs.ltOf (C6F l)=fun i j=>Go.Proofs.ltOf A1M l[i] l[j]:=rfl;rw [e] at this;simp only at this;rwa [A5k] at this
def C56: ∀args w,(callFunc 28 args).run Tryz.prog w= .ok (.enter 28 args) w:=Go.Proofs.enters_of Tryz.func28 (by kernel_rfl) rfl
def B36 (f:FuncId) (hf: ∀a b:List Int,a.length<2^40->b.length<2^40->ACall Tryz.prog f [A0q a,A0q b] (A0n (A1M a b))) (l:List (List Int)) (hpos:0<l.length) (hl:l.length<2^40) (hB: ∀B,B∈l->B.length<2^40) {H:List Blk} {id cap:Nat} (hid:H[id]? =some (.box (sC l))):
  ACallH Tryz.prog 28 H [.c (.ref id 1 0 l.length cap),.c (.fn f [])] (H.set id (.box (sC (sortLL l)))) (.tup []):=by
 have hb: ∀i:Fin l.length,l[i].length<2^40:=fun i=>hB _ (Xk i.isLt)
 have h:=A9Q (cap:=cap) laySortL (fun i:Fin l.length=>A0p l[i]) (C6F l) (C6G l) f (fun x y=>hf l[x] l[y] (hb x) (hb y)) C56 (List.finRange l.length) (by simpa using hpos) (by simp; omega) (
  by
  rw [hid]; congr 2;conv=>lhs; rw [<-B6l l]
  unfold sC
  rw [VQ]; rfl)
 have e:(A6t (C6F l) (List.finRange l.length)).map (fun i=>ACell.slice (A0p l[i]) .none)=sC (sortLL l):=by
  rw [<-C1c]; unfold sC; rw [VQ]; rfl
 rw [List.length_finRange] at h;rw [<-e];exact h
def C3j (l:List (List Int)) (hpos:0<l.length) (hl:l.length<2^40) (hB: ∀B,B∈l->B.length<2^40) {H:List Blk} {id cap:Nat} (hid:H[id]? =some (.box (sC l))):
  ACallH Tryz.prog 28 H [.c (.ref id 1 0 l.length cap),.c (.fn 80 [])] (H.set id (.box (sC (sortLL l)))) (.tup []):=B36 _ C54 l hpos hl hB hid
end
def C72 (n:Int) (es:List E) (a b:Nat): ∀(id:Nat) (blk:Blk),[Blk.box [.int .i64 n,.slice (A0f es) .none],.dead,.chain a b][id]? =some blk->B82 blk:=C2z fun blk hb=>by
 simp only [Qw,Qv,or_false] at hb;rcases hb with rfl | rfl | rfl
 ·intro c hc;simp only [Qw,Qv,or_false] at hc;rcases hc with rfl | rfl
  ·exact Qv4
  ·exact B98 es
 ·exact Qv4
 ·exact Qv4
noncomputable def C5M (g:G):List (List Int):=(tI (treesG g)).map (A2l (B7B g))
def C1d (g:G) (hl:g.es.length≤40) (hT:A0t g=0->(treesG g).length≤16384):
  ACall Tryz.prog 26 [tG g] (.tup [A0S (if A0t g≠0 then [] else sortLL (C5M g)),A0n (A0t g)]):=by
 have hJ:=B71 g hl;by_cases h0:A0t g=0
 ·rw [if_neg (by omega)];have hR:=B4G g hl;have hA:=B1M g hl (hT h0);have hTl:=hT h0;rw [h0] at hR hA hJ ⊢;have hr:=B4T h0;have hs:RSm (B7B g):=C5y hl h0;have h12:1≤g.n∧g.n≤12:=(A0j.1 hr.c).1;have hD: ∀t,t∈tI (treesG g)->ACall Tryz.prog 56 [tR (B7B g),A0q t] (A0q (A2l (B7B g) t)):=fun t ht=>by
   have:=A2y hr ht;have h3:(B7B g).n.toNat=g.n.toNat:=rfl;exact A2C (B7B g) t hs this.1 (by omega)
  have hne:tI (treesG g)≠[]:=by
   obtain ⟨hM,hJ2⟩:=C1b h0;obtain ⟨T,hT2⟩:=B1R hr hM hJ2;intro e;have:zI T∈tI (treesG g):=QJ.2 ⟨T,hT2,rfl⟩;rw [e] at this; cases this
  have hdl: ∀t,(A2l (B7B g) t).length≤12:=fun t=>by rw [A2S]; show g.n.toNat≤12; omega
  have hR2:ACall Tryz.prog 79 [tG g] (.tup [tR (B7B g),A0n 0]):=hR;have hA2:ACall Tryz.prog 25 [tG g] (.tup [A0S (tI (treesG g)),A0n 0]):=hA;clear hR hA hT;have hTl2:(tI (treesG g)).length≤16384:=by rw [B0S]; exact hTl
  unfold C5M;generalize A2l (B7B g)=dF at*;generalize tI (treesG g)=Ts at*;have hln:(Ts.map dF).length=Ts.length:=XW _;have hS:=fun (H:List Blk) (cap:Nat) hid=>C3j (Ts.map dF) (by rw [hln]; exact Ww.2 hne) (by omega) (fun B hB=>by obtain ⟨t,_,rfl⟩:=QJ.1 hB; have:=hdl t; omega) (H:=H) (id:=3) (cap:=cap) hid;generalize B7B g=r0 at*;clear hr hs hTl h12;obtain ⟨rn,res,rar⟩:=r0;obtain ⟨n,es⟩:=g;refine ACall.of_bodyF Tryz.func26 rfl (by kernel_rfl) ?_;simp only [entry,Tryz.ntmps26,tG];refine zU ?_;refine zF (stop 11) Qv6 (zc hJ (zc hR2 (zc hA2 Qv6))) Qv6 Qv6 (ed fun hp hpc=>?_);refine AWp.weak (Weak.opens ((fun t f=>[f,f,f,f,f,f,f,f,t,f,f,f,f,f,f,f,f,f,f,f,f,f,f,f,f,f,f,f,f,f,f,f,f,f,f,f,f,f,f,f,f,f,f,f,f,f,f,f]) true false) 1 (by first | omega | simp)) ?_;simp only [A2F,A8H,List.length_cons,List.length_nil,Xv,Nat.reduceAdd,List.cons_append,List.nil_append];refine zF Qv6 (zc @A0o Qv6) Qv6 Qv6 Qv6 (ed fun hp hpc=>?_);refine AWp.loopS (α:=Nat) 48 (fun i=>[(5,.c (.ptr 1 0)),(8,.c (.slice (A0u ((Ts.take i).map dF)) (.chain 2))),(32,.c (.slice (A0u Ts) .none)),(33,.c (.int .i64 (Ts.length:Int))),(34,.c (.int .i64 (i:Int)))]) (fun i=>[.box [.int .i64 n,.slice (A0f es) .none],.box [.int .i64 rn,.slice (A0f res) .none,.slice (A0u rar) .none],.chain i 1]) (fun i=>i≤Ts.length) (fun i=>Ts.length-i) (0) (hk:=Weak.headL 3 48 [5,8,32,33,34] (zV @C3d)) (h0:=?_) (round:=fun i hI=>?_)
  ·exact Xw _
  ·have hi:i≤Ts.length:=hI;clear hI;by_cases hlt:i<Ts.length
   ·have hltI:(i:Int)<(Ts.length:Int):=by omega
    have e0:=Qq hlt;have e1:=A0U e0;have d1:=hD _ (Xk hlt);have t1:(Ts.take (i+1)).map dF=(Ts.take i).map dF++[dF Ts[i]]:=by rw [XZ hlt,WY]; rfl
    have hlk:((Ts.take i).map dF).length=i:=by rw [XW,YV]; omega
    generalize dF Ts[i]=y at*;generalize Ts[i]=x at*;generalize hK1:(Ts.take (i+1)).map dF=K1 at*;generalize (Ts.take i).map dF=K0 at*;refine zRc (zc @hltI (zc @e1 (zc @A0o (zc @A5V (zc @hlk Qv6))))) (zc d1 Qv6) @A3l ?_;rw [<-t1];refine ⟨i+1,Weak.headF 3 48 [5,8,32,33,34] (zc @hK1 Qv6) (zV @C3d),?_,?_⟩
    ·exact hlt
    ·omega
   ·have ei:i=Ts.length:=by omega
    have hnl: ¬((i:Int)<(Ts.length:Int)):=by omega
    rw [ei] at hnl;rw [ei,Zy];have hne2:Ts.map dF≠[]:=by simpa using hne
    generalize Ts.map dF=O at*;rw [<-hln] at hnl;rw [<-hln];refine zF (C7b 16) (zc @hnl Qv6) Qv6 Qv6 Qv6 (ed fun hp hpc=>?_);refine FWp.weak (Weak.head2 (m:=3) (by omega) ((fun t f=>[f,f,f,f,f,f,f,f,t,f,f,f,f,f,f,f,f,f,f,f,f,f,f,f,f,f,f,f,f,f,f,f,f,f,f,f,f,f,f,f,f,f,f,f,f,f,f,f]) true false) rfl rfl (zV @C3d)) ?_;simp only [mask,List.take_succ_cons,List.take_zero,List.set_cons_succ,List.set_cons_zero];refine FWp.weak (Weak.dead 1 rfl (Xw _)) ?_;simp only [List.set_cons_succ,List.set_cons_zero];refine FWp.thawLT 8 rfl rfl (fun r hr=>A3l hr) (by decide) (fun r hr=>C2y hr) (by simpa [A0u] using hne2) (C72 _ _ _ _) (by simp [C4h,B3U,A9P]) (fun id h=>absurd h (Nat.not_lt_zero _)) (fun cap hcap=> ?_);rw [C5x,A0o];rw [A0o] at hcap;simp only [List.length_cons,List.length_nil,List.set_cons_succ,List.set_cons_zero,List.cons_append,List.nil_append,Nat.reduceAdd];refine FWp.of_awp ?_;have hsl:(sortLL O).length=O.length:=(A1q O).length_eq;have hS2:=hS [.box [.int .i64 n,.slice (A0f es) .none],.dead,.chain O.length 1,.box (sC O)] cap rfl;generalize sortLL O=X at*;refine zM Qv6 Qv6 Qv6 (zc hS2 Qv6) Qv6 (ed fun hp hpc=>?_);have h1:=C0S X;rw [hsl] at h1;have h2:(sC X).take O.length=sC X:=ZZ (by rw [A9G]; omega);simp [A00,A0z,Tryz.results26,A0v,A0w,A0d,A0b,Blk.cells,hcap,h2,h1.1,h1.2];rw [if_pos (by rw [A9G]; omega)];rfl
 ·rw [if_pos h0];generalize A0t g=e at*;obtain ⟨n',es⟩:=g;refine ACall.of_body Tryz.func26 rfl (by kernel_rfl) ?_;simp only [entry,Tryz.ntmps26,tG];refine zU ?_;refine zR (zc @h0 Qv6) (zc hJ Qv6) Qv6 ?_;simp [A00,A0z,Blk.cells,ty,Tryz.results26,A0v,A0w,toT,A0d,A0b,A0c,A0a,A0n,A0S,A0u]
def A6V {r:R} {t:List Int} {p:Nat->Nat} (P:TourP (2*(endsL r.es).length) (A0I (sR (endsL r.es) r.ar) (A4a t)) (beginR r) p) {v:Nat} (hv:v<r.n.toNat):(A2l r t).getD v 0=A5B (endsL r.es).length (gR (endsL r.es)) p (A4a t) v:=by
 have h:=A6P r t (2*(endsL r.es).length) hv;unfold A2l;rw [Qz,h,Option.getD_some];exact C2R P v
def B1S {r:R} (hr:ROk r) (hT:T∈treesG r.g) (hE:(endsL r.es).length≠0): ∃p,TourP (2*(endsL r.es).length) (A0I (sR (endsL r.es) r.ar) (A4a (zI T))) (beginR r) p:=by
 obtain ⟨h1,h2⟩:=A2Y hr hT;exact B1F hr h1 h2 (B1H hr hE)
def C1e {r:R} (hr:ROk r) {T T':List Nat} (hT:T∈treesG r.g) (hT':T'∈treesG r.g) (he:A2l r (zI T)=A2l r (zI T')):T=T':=by
 have a1:=A2m.1 hT;have a2:=A2m.1 hT';have key: ∀x,x∈T↔x∈T':=by
  by_cases hE:(endsL r.es).length=0
  ·have e1:(endsL r.g.es).length=0:=hE;intro x;constructor
   ·intro hx; have:=a1.2.1 x hx; omega
   ·intro hx; have:=a2.2.1 x hx; omega
  ·obtain ⟨p,P⟩:=B1S hr hT hE;obtain ⟨p',P'⟩:=B1S hr hT' hE;obtain ⟨t1,t2⟩:=A2Y hr hT;obtain ⟨t3,t4⟩:=A2Y hr hT';have hk: ∀x,x<2*(endsL r.es).length->gR (endsL r.es) (sR (endsL r.es) r.ar x)=gR (endsL r.es) x:=fun x hx=>(A2K hr).keep x hx;have hb: ∀v,v<r.n.toNat->A5B (endsL r.es).length (gR (endsL r.es)) p (A4a (zI T)) v=A5B (endsL r.es).length (gR (endsL r.es)) p' (A4a (zI T')) v:=fun v hv=>by
    rw [<-A6V P hv,<-A6V P' hv,he]
   have hq:=B5N hk (A2K hr).lt (A6M hr t1 t2) (A6M hr t3 t4) P P' (B0N (A2K hr).lt hb);intro x;have hz: ∀(U:List Nat),(x:Int)∈zI U↔x∈U:=fun U=>by
    unfold zI; rw [QJ];exact ⟨fun ⟨a,ha,e⟩=>by have:a=x:=Int.ofNat.inj e; exact this▸ha,fun h=>⟨x,h,rfl⟩⟩
   have hx2:x<(endsL r.es).length->(x∈T↔x∈T'):=fun hx=>by
    have:=hq x hx;unfold A4a at this;rw [decide_eq_decide,hz,hz] at this; exact this
   constructor
   ·intro h; exact (hx2 (a1.2.1 x h)).1 h
   ·intro h; exact (hx2 (a2.2.1 x h)).2 h
 refine Qj2 (le:=(·< ·)) (fun a b _ _ q1 q2=>by omega) a1.1 a2.1 ?_;exact (WJ (a1.1.imp fun h=>Qz1 h) (a2.1.imp fun h=>Qz1 h)).2 key
def B1T {r:R} (hr:ROk r) (hT:T∈treesG r.g):BrkD (endsL r.es).length r.n.toNat (gR (endsL r.es)) (fun v=>(A2l r (zI T)).getD v 0):=by
 obtain ⟨t1,t2⟩:=A2Y hr hT;by_cases hE:(endsL r.es).length=0
 ·have hB:BrkD (endsL r.es).length r.n.toNat (gR (endsL r.es)) (C5L (endsL r.es).length (gR (endsL r.es)) (fun f=>2*f) (A4a (zI T))):=C5v (fun e he=> .inl rfl) (A2K hr).lt (A6M hr t1 t2);refine hB.congr fun v hv=> ?_;have h:=A6P r (zI T) (2*(endsL r.es).length) hv;unfold A2l;rw [Qz,h,Option.getD_some,hE];rfl
 ·obtain ⟨p,P⟩:=B1S hr hT hE;have hB:=A8r (p:=p) (A2K hr).lt (A6M hr t1 t2);exact hB.congr fun v hv=>(A6V P hv).symm
def eqvL (n:Nat) (es:List E) (x y:List Int):Prop:=A9t n (mulE es) (fun v=>x.getD v 0) (fun v=>y.getD v 0)
def C3k {r:R} (hr:ROk r) (hM:Mult r.n.toNat M) (hJ:Joins (endsL r.es).length r.n.toNat (gR (endsL r.es)) M) {h0:Nat} (hh:h0<2*(endsL r.es).length) {D:Nat->Int} (hD:sumR D r.n.toNat=((endsL r.es).length:Int)-r.n.toNat+1):
  ∃T p,T∈treesG r.g∧TourP (2*(endsL r.es).length) (A0I (sR (endsL r.es) r.ar) (A4a (zI T))) h0 p∧A9t r.n.toNat M (A5B (endsL r.es).length (gR (endsL r.es)) p (A4a (zI T))) D:=by
 have hk: ∀x,x<2*(endsL r.es).length->gR (endsL r.es) (sR (endsL r.es) r.ar x)=gR (endsL r.es) x:=fun x hx=>(A2K hr).keep x hx;obtain ⟨t,p,h1,h2,h3,h4⟩:=C2P (q:=0) hM (A2k hr) (A2R hr) (A2K hr).lt (B1E hr) hJ hk (fun t ht hb=>B1F hr ht hb hh) hD;obtain ⟨T,hT,e⟩:=B34 (A2k hr) (A99 hr) (A2R hr) h1 h2;exact ⟨T,p,hT,by rw [e]; exact h3,by rw [e]; exact h4⟩
def C57 {r:R} (hr:ROk r) (hM:Mult r.n.toNat M) (hJ:Joins (endsL r.es).length r.n.toNat (gR (endsL r.es)) M) {D:Nat->Int} (hD:sumR D r.n.toNat=((endsL r.es).length:Int)-r.n.toNat+1):
  ∃T,T∈treesG r.g∧A9t r.n.toNat M (fun v=>(A2l r (zI T)).getD v 0) D:=by
 by_cases hE:(endsL r.es).length=0
 ·obtain ⟨T,hT⟩:=B1R hr hM hJ;refine ⟨T,hT,.of_eq fun v hv=> ?_⟩;have h1:=A2m.1 hT;have hTl:T=[]:=List.eq_nil_iff_forall_not_mem.2 fun a ha=>by
   have:=h1.2.1 a ha;have e:(endsL r.g.es).length=(endsL r.es).length:=rfl;omega
  have hn:r.n.toNat=1:=by
   have:=h1.2.2.1;rw [hTl] at this;have e:r.g.n=r.n:=rfl;rw [e] at this;simpa using this.symm
  have hB:=(B1T hr hT).deg;rw [<-hD,hn] at hB;have e1: ∀F:Nat->Int,sumR F 1=F 0:=fun F=>by show sumR F 0+F 0=F 0; show 0+F 0=F 0; omega
  rw [e1,e1] at hB;have:v=0:=by omega
  subst this;omega
 ·obtain ⟨T,p,hT,P,he⟩:=C3k hr hM hJ (B1H hr hE) hD;exact ⟨T,hT,(A9t.of_eq fun v hv=>(A6V P hv).symm).trans he⟩
def C1f {r:R} {q:List Int->Bool} {T:List Nat} (hT:T∈treesG r.g) (hq:q (A2l r (zI T))=true) (hu: ∀T',T'∈treesG r.g->q (A2l r (zI T'))=true->T'=T):C3e r q (tI (treesG r.g))=some (zI T):=by
 unfold C3e;cases h:(tI (treesG r.g)).find? (fun t=>q (A2l r t)) with
 | none=>
  rw [List.find?_eq_none] at h;exact absurd hq (h (zI T) (QJ.2 ⟨T,hT,rfl⟩))
 | some t=>
  have h1:=List.find?_some h;obtain ⟨T',hT',e⟩:=QJ.1 (List.mem_of_find?_eq_some h);subst e;rw [hu T' hT' h1]; rfl
def B1U {r:R} (h:ribE r=0) (hT:T∈treesG r.g):B39 r (zI T)=0:=by
 have hr:=B5A h;obtain ⟨h1,h2⟩:=A2Y hr hT;have h3:=A2m.1 hT;have hj:A0t r.g=0:=by unfold A0t; rw [if_neg (by have:=hr.c; omega),if_pos hr.conn]
 have hs:A47 (endsL r.g.es).length none (zI T)=0:=A9q h1 (JQ.2 (h3.1.imp fun {a b} hab=>by omega)) (fun w hw=>by cases hw);have hn:=A2k hr;unfold B39;rw [if_neg (by omega)];unfold A7Y;rw [if_neg (by omega),if_neg (by omega),if_neg ?_,if_pos (show treeB r.g.n.toNat (endsL r.g.es) (zI T)=true from h2)];have hl:(zI T).length=T.length:=by unfold zI; rw [XW]
 have h4:T.length+1=r.n.toNat:=h3.2.2.1;have e:r.g.n=r.n:=rfl;rw [hl,e]; omega
end Go.Proofs.YtdbdfkohpjefjaaGreat
