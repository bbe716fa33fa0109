/- A part of the proof. -/
import Derived.Test.YtdbdfkohpjefjaaGreatPart41
import Derived.Test.YtdbdfkohpjefjaaGreatPart42
import Derived.Test.YtdbdfkohpjefjaaGreatPart43
set_option linter.all false
set_option maxHeartbeats 4000000
set_option maxRecDepth 100000
namespace Go.Proofs.YtdbdfkohpjefjaaGreat
open Go.Sp
section
theorem C2n (t a b:List Int):A1O (t++a) (t++b)=A1O a b:=by
 induction t with
 | nil=>rfl
 | cons x t ih=>show (if x=x then A1O (t++a) (t++b) else decide (x<x))=_; rw [if_pos rfl,ih]
theorem A4W {n:Nat} {L:List (Int×Int)}: ∀{k:Nat} {t:List Nat} {e:Nat},A4t (pkN L t)->(A17 n L k t e).Pairwise fun a b=>A1O (zI b) (zI a)=false
 | 0,t,e,ha=>by unfold A17; split<;>simp
 | k +1,t,e,ha=>by
  unfold A17;split
  ·simp
  ·rename_i hn;rw [Qq9];refine ⟨?_,A4W ha,fun A hA B hB=> ?_⟩
   ·split
    ·rename_i h; exact A4W h
    ·simp
   ·split at hA
    ·rename_i h;obtain ⟨s,rfl,-⟩:=(A3R h).1 hA;obtain ⟨s2,rfl,-,h2,h3,-⟩:=(A3R ha).1 hB;have e1:zI (t++[e]++s)=zI t++((e:Int)::zI s):=by simp [zI]
     have e2:zI (t++s2)=zI t++zI s2:=by simp [zI]
     rw [e1,e2];refine A2g _ _ ?_;rw [C2n];cases s2 with
     | nil=>rw [WZ] at h3; exact absurd h3 hn
     | cons x s2=>
      have:=(h2 x (by simp)).1;show (if (e:Int)=(x:Int) then _ else decide ((e:Int)<(x:Int)))=true;rw [if_neg (by omega),decide_eq_true (by omega)]
    ·cases hA
theorem A2K {n:Nat} {L:List (Int×Int)} {T:List Nat}:T∈allT n L↔T.Pairwise (·< ·)∧(∀x,x∈T->x<L.length)∧T.length+1=n∧A4t (pkN L T):=by
 unfold allT;rw [A3R (show A4t (pkN L []) from A4i)];constructor
 ·rintro ⟨s,rfl,h1,h2,h3,h4⟩;exact ⟨h1,fun x hx=>by have:=h2 x hx; omega,h3,h4⟩
 ·rintro ⟨h1,h2,h3,h4⟩;exact ⟨T,rfl,h1,fun x hx=>by have:=h2 x hx; omega,h3,h4⟩
theorem A5x {n:Nat} {L:List (Int×Int)} (h0:0<n) (hL:InN n L) {T:List Nat} (hT: ∀x,x∈T->x<L.length):treeB n L (zI T)=true↔T.length+1=n∧A4t (pkN L T):=by
 have hpk:pkN L T=pkL L (zI T):=B9w L T;have hin:=A9a hL (t:=zI T) fun x hx=>by
  obtain ⟨a,ha,rfl⟩:=QJ.1 hx;have:=hT a ha; omega
 have hn:=(A4j (pkL L (zI T)) hin).2;rw [hpk,hn];unfold treeB;rw [decide_eq_true_eq,A35,A2r,A35];omega
theorem C0i {n:Nat} {L:List (Int×Int)} {t u:List Int} (h:t.Perm u):treeB n L t=treeB n L u:=by
 have hl:=h.length_eq;have hc: ∀x y,Conn (pkL L t) x y↔Conn (pkL L u) x y:=fun x y=>by
  have hm: ∀p,p∈pkL L t↔p∈pkL L u:=fun p=>(h.map _).mem_iff;exact ⟨Conn.mono fun p hp=>(hm p).1 hp,Conn.mono fun p hp=>(hm p).2 hp⟩
 unfold treeB;rw [hl,A2o fun x y _ _=>hc x y]
theorem C4w {E w w':Nat} (h1:w<2^E) (h2:w'<2^E) (h:setN E w=setN E w'):w=w':=by
 refine Nat.eq_of_testBit_eq fun i=> ?_;by_cases hi:i<E
 ·have key: ∀v,i∈setN E v↔v.testBit i=true:=fun v=>by
   unfold setN;rw [ZV,XQ,decide_eq_true_eq,A3S];exact ⟨fun q=>q.2,fun q=>⟨hi,q⟩⟩
  have:=key w;rw [h,key w'] at this;rw [Qj6]; exact this.symm
 ·have hp:2^E≤2^i:=Qz5 (by omega) (by omega);rw [Qx4 (by omega),Qx4 (by omega)]
theorem C0j: ∀{a b:List Nat},zI a=zI b->a=b
 | [],[],_=>rfl
 | [],_::_,h=>by simp [zI] at h
 | _::_,[],h=>by simp [zI] at h
 | x::a,y::b,h=>by
  have h1:((x:Int)::zI a)=(y:Int)::zI b:=h;injection h1 with h2 h3;rw [C0j h3,Int.ofNat.inj h2]
theorem B01 (g:G): ∀m,m≤2^(endsL g.es).length->(A4l g m).Nodup
 | 0,_=>by simp [A4l]
 | m+1,h=>by
  have ih:=B01 g m (by omega);unfold A4l;split
  ·rw [WX];refine ⟨ih,by simp,fun a ha b hb e=> ?_⟩;rw [Zz] at hb;subst e;obtain ⟨w,hw,q,-⟩:=A7V.1 ha;have:=C4w (by omega) (by omega) (C0j (hb.symm.trans q));omega
  ·exact ih
theorem C5B {E:Nat} {T:List Nat} (hs:T.Pairwise (·< ·)) (hT: ∀x,x∈T->x<E): ∃w,w<2^E∧T=setN E w:=by
 refine ⟨A7D (fun v=>decide (v∈T)) E,A7U _ _,?_⟩;have hs2:(setN E (A7D (fun v=>decide (v∈T)) E)).Pairwise (·< ·):=List.pairwise_lt_range.filter _;refine Qw3 (le:=(·< ·)) (fun a b _ _ q1 q2=>by omega) hs hs2 ?_;refine (Vy (hs.imp fun h=>Qj1 h) (hs2.imp fun h=>Qj1 h)).2 fun x=> ?_;unfold setN;rw [ZV,XQ,decide_eq_true_eq,A3S];constructor
 ·intro hx;have:=hT x hx;exact ⟨this,by rw [A2P _ _ _ this]; exact decide_eq_true hx⟩
 ·rintro ⟨hx,h⟩;rw [A2P _ _ _ hx] at h;exact of_decide_eq_true h
theorem C2o {g:G} (hc:checkG g=0):tI (treesG g)=A9i g:=by
 have h12:=(A0h.1 hc).1;obtain ⟨n,hn⟩: ∃n:Nat,g.n=n:=⟨g.n.toNat,by omega⟩;have hIn:InN n (endsL g.es):=fun p hp=>by have:=A2f hc hn p hp; omega
 have htI:tI (treesG g)=(treesG g).map zI:=rfl;unfold A9i;have hnd:(allT n (endsL g.es)).Nodup:=A9d (show A4t (pkN (endsL g.es) []) from A4i);have hgt:treesG g=allT n (endsL g.es):=by unfold treesG; rw [show g.n.toNat=n by omega]
 rw [htI,hgt];refine A66 ?_ ?_
 ·rw [Jj];exact A4W (show A4t (pkN (endsL g.es) []) from A4i)
 ·refine (Vy (Jj.2 (hnd.imp fun {a b} hab e=>hab (C0j e))) (B01 g _ (QQ _))).2 fun x=> ?_;rw [QJ,A7V];constructor
  ·rintro ⟨T,hT,rfl⟩;obtain ⟨h1,h2,h3,h4⟩:=A2K.1 hT;obtain ⟨w,hw,rfl⟩:=C5B h1 h2;exact ⟨w,hw,rfl,by rw [show g.n.toNat=n by omega]; exact (A5x (by omega) hIn h2).2 ⟨h3,h4⟩⟩
  ·rintro ⟨w,hw,rfl,ht⟩;have hT: ∀x,x∈setN (endsL g.es).length w->x<(endsL g.es).length:=fun x hx=>by
    unfold setN at hx;exact XQ.1 (ZV.1 hx).1
   rw [show g.n.toNat=n by omega] at ht;have h2:=(A5x (by omega) hIn hT).1 ht;exact ⟨_,A2K.2 ⟨List.pairwise_lt_range.filter _,hT,h2.1,h2.2⟩,rfl⟩
def B6W (g:G):R:=⟨g.n,g.es,A1h (endsL g.es) g.n.toNat (2*(endsL g.es).length)⟩
theorem C4x (L:List (Int×Int)) (v:Int) (k:Nat):(ownL L v k).Nodup:=by
 unfold ownL;exact Jj.2 ((List.pairwise_lt_range.filter _).imp fun {a b} h e=>by have:a=b:=Int.ofNat.inj e; omega)
theorem C0k {g:G} (h:A0r g=0):ROk (B6W g):=by
 obtain ⟨hc,hcon⟩:=A1W h;have h12:=(A0h.1 hc).1;refine ⟨hc,hcon,?_,fun i l hl=> ?_⟩
 ·show ((A1h (endsL g.es) g.n.toNat (2*(endsL g.es).length)).length:Int)=g.n;rw [A0H]; omega
 ·have hl:(A1h (endsL g.es) g.n.toNat (2*(endsL g.es).length))[i]? =some l:=hl;have hi:i<g.n.toNat:=by have:=(Qx.1 hl).1; rwa [A0H] at this
  rw [A3f hi] at hl;cases hl;exact ⟨C4x _ _ _,fun _ h=>h,fun _ h=>h,rfl,.inr rfl⟩
theorem C0l {n:Nat} {L:List (Int×Int)} {g:Nat->Nat} (h0:0<n) (hL:InN n L) (hg:B2v L g) {t:List Int} (ht: ∀x,x∈t->0≤x∧x<(L.length:Int)) (hb:treeB n L t=true): ∃T,T∈allT n L∧A6H (zI T)=A6H t:=by
 have hnd:t.Nodup:=by
  unfold treeB at hb;obtain ⟨hl,hc⟩:=of_decide_eq_true hb;have hac:A4t (pkL L t):=(A4j _ (A9a hL ht)).2.2 (by rw [hc,A2r]; omega);exact A7k hg hac ht
 let T:=setN L.length (A7D (A6H t) L.length);have hTs:T.Pairwise (·< ·):=List.pairwise_lt_range.filter _;have hTm: ∀x:Nat,x∈T↔x<L.length∧(x:Int)∈t:=fun x=>by
  show x∈(List.range L.length).filter _↔_;rw [ZV,XQ,decide_eq_true_eq,A3S];constructor
  ·rintro ⟨h,q⟩;rw [A2P _ _ _ h] at q;exact ⟨h,of_decide_eq_true q⟩
  ·rintro ⟨h,q⟩;exact ⟨h,by rw [A2P _ _ _ h]; exact decide_eq_true q⟩
 have hzm: ∀x,x∈zI T↔x∈t:=fun x=>by
  constructor
  ·intro h;obtain ⟨a,ha,rfl⟩:=QJ.1 h;exact ((hTm a).1 ha).2
  ·intro h;have:=ht x h;refine QJ.2 ⟨x.toNat,(hTm _).2 ⟨by omega,?_⟩,by show ((x.toNat:Nat):Int)=x; omega⟩;rw [show ((x.toNat:Nat):Int)=x by omega]; exact h
 have hp:(zI T).Perm t:=(Vy (Jj.2 (hTs.imp fun {a b} h e=>by have:a=b:=Int.ofNat.inj e; omega)) hnd).2 hzm;have hlt: ∀x,x∈T->x<L.length:=fun x hx=>((hTm x).1 hx).1;have hb2:treeB n L (zI T)=true:=by rw [C0i hp]; exact hb
 have h3:=(A5x h0 hL hlt).1 hb2;refine ⟨T,A2K.2 ⟨hTs,hlt,h3.1,h3.2⟩,?_⟩;funext e;unfold A6H;rw [Qj6,decide_eq_true_eq,decide_eq_true_eq];exact hzm _
theorem A5y {r:R} (hr:ROk r) {T:List Nat} (hT:T∈treesG r.g):(∀x,x∈zI T->0≤x∧x<((endsL r.es).length:Int))∧treeB r.n.toNat (endsL r.es) (zI T)=true:=by
 obtain ⟨h1,h2,h3,h4⟩:=A2K.1 hT;exact ⟨fun x hx=>by obtain ⟨a,ha,rfl⟩:=QJ.1 hx; have:=h2 a ha; have e:(endsL r.g.es).length=(endsL r.es).length:=rfl; omega,(A5x (A2B hr) (A9e hr) h2).2 ⟨h3,h4⟩⟩
theorem C2p {r:R} (hr:ROk r) {M:Nat->Nat->Int} (hM:Mult r.n.toNat M) (hJ:Joins (endsL r.es).length r.n.toNat (gR (endsL r.es)) M): ∃T,T∈treesG r.g:=by
 have hq:=A2B hr;have hA:=B5n hr;have hR:=C5x hM hq (A59 hr).lt hA hJ;obtain ⟨R0,hR0⟩:=B6B hR hM;have hp: ∀v,v<r.n.toNat->v≠0->0<(arN r v).length:=fun v hv hn=>by rw [<-C5y (g:=gR (endsL r.es))]; exact hR.pos v hv hn
 have hH: ∀v,v<r.n.toNat->v≠0->C1S (arN r) R0 v<2*(endsL r.es).length∧gR (endsL r.es) (C1S (arN r) R0 v)=v:=fun v hv hn=>C1T hA R0 hv (hp v hv hn);have ht:=B6A hq (A4k hr) hH ((B9s hp).1 hR0);have hrange: ∀y,y∈A9c r.n.toNat 0 (C1S (arN r) R0)->0≤y∧y<((endsL r.es).length:Int):=fun y hy=>by
  obtain ⟨v,hv,hn,rfl⟩:=B2w.1 hy;have:=(hH v hv hn).1;omega
 obtain ⟨T,hT,-⟩:=C0l hq (A9e hr) (A4k hr) hrange ht;exact ⟨T,hT⟩
theorem BrkD.congr {E n:Nat} {g:Nat->Nat} {D D':Nat->Int} (h:BrkD E n g D) (he: ∀v,v<n->D v=D' v):BrkD E n g D':=by
 refine ⟨?_,fun A hA=> ?_⟩
 ·rw [<-A0w he]; exact h.deg
 ·have h1:=h.low A hA;have e:sumR (fun v=>if A v=true then D v else 0) n=sumR (fun v=>if A v=true then D' v else 0) n:=A0w fun v hv=>by rw [he v hv]
  rw [e] at h1; exact h1
theorem C0m {g:G} (h:A0r g=0):Mult g.n.toNat (mulE g.es)∧Joins (endsL g.es).length g.n.toNat (gR (endsL g.es)) (mulE g.es):=by
 obtain ⟨hc,hcon⟩:=A1W h;have h12:=(A0h.1 hc).1;exact ⟨(C3G hc (n:=g.n.toNat) (by omega) hcon).2,B98 (C0k h)⟩
theorem B6X (d x:List Int) (hd:d.length<2^40) (hx:x.length<2^40):ACall Tryz.prog 66 [A0m x,.t (.rptr [.slice (A0p d)])] (A0z (decide (x=d))):=by
 have hE:=A8Y x d hx hd;generalize decide (x=d)=b at*;refine ACall.of_body Tryz.func66 rfl (by kernel_rfl) ?_;simp only [entry,Tryz.ntmps66,A0m];refine zU ?_;refine zR Qw9 (zc hE Qw9) Qw9 ?_;simp [A0y,A0x,Blk.cells,ty,Tryz.results66,A0s,A0t,toT,A0d,A0b,A0c,A0a,A0z]
noncomputable def trE (r:R) (d:List Int):Int:=if ribE r≠0 then ribE r else if B4e d r.n≠0 then B4e d r.n else if B9O r.g d=true then 0 else 15
noncomputable def trT (r:R) (d:List Int):Option (List Int):=C2j r (fun x=>decide (x=d)) (tI (treesG r.g))
theorem A3m {r:R} (hr:ROk r) {t:List Int} (h:t∈tI (treesG r.g)):RTree r t∧t.length+1=r.n.toNat:=by
 obtain ⟨T,hT,rfl⟩:=QJ.1 h;obtain ⟨h1,h2⟩:=A5y hr hT;have h3:=(A2K.1 hT).2.2.1;exact ⟨⟨hr,h1,h2⟩,by rw [Zq]; exact h3⟩
theorem C0n (r:R) (d:List Int) (hs:RSm r) (hT:ribE r=0->(treesG r.g).length≤16384) (hdl:d.length<2^40) (hok:ribE r=0->ROk r):
  ACall Tryz.prog 20 [tR r,A0m d] (.tup [A0m (if trE r d≠0 then [] else B6T (trT r d)),A0k (if trE r d≠0 then trE r d else B6U (trT r d))]):=by
 have hR:=B2r r hs;have hC:=A9f d r.n hdl;unfold trE;by_cases h0:ribE r=0
 ·rw [if_neg (show ¬ribE r≠0 by omega)];rw [h0] at hR;have hrk:=hok h0;have h12:1≤r.n∧r.n≤12:=(A0h.1 hrk.c).1;by_cases h1:B4e d r.n=0
  ·rw [if_neg (show ¬B4e d r.n≠0 by omega)];rw [h1] at hC;obtain ⟨n,hn⟩: ∃n:Nat,r.n=n:=⟨r.n.toNat,by omega⟩;rw [hn] at h1;obtain ⟨q1,q2,q3,q4⟩:=B9C h1;have hB:=B26 r.g d (C2J hrk.c hs.es) h12 hs.es (by show d.length=r.n.toNat; omega) (fun v _=>by have:=q4 v; omega);by_cases hb:B9O r.g d=true
   ·rw [hb] at hB;rw [if_pos hb];have hj:A0r r.g=0:=by unfold A0r; rw [if_neg (by have:=hrk.c; omega),if_pos hrk.conn]
    have hA:=B4j r.g hs.es (hT h0);rw [hj] at hA;have hF:=C0d r hs (tI (treesG r.g)) (by rw [B2K]; have:=hT h0; omega) (fun t ht=>⟨(A3m hrk ht).1,by have:=(A3m hrk ht).2; omega⟩) 66 [.slice (A0p d)] (fun x=>decide (x=d)) (fun t _=>B6X d _ hdl (by rw [A4m]; omega));have hF2:ACall Tryz.prog 65 [tR r,A0R (tI (treesG r.g)),.t (.fn 66 [.rptr [.slice (A0p d)]])] (.tup [A0m (B6T (trT r d)),A0k (B6U (trT r d))]):=hF;have hA2:ACall Tryz.prog 25 [tG r.g] (.tup [A0R (tI (treesG r.g)),A0k 0]):=hA;have e0:(if (0:Int)≠0 then ([]:List Int) else B6T (trT r d))=B6T (trT r d):=if_neg (by simp);have e1:(if (0:Int)≠0 then 0 else B6U (trT r d))=B6U (trT r d):=if_neg (by simp);rw [e0,e1];clear hF hA;generalize B6T (trT r d)=V at*;generalize B6U (trT r d)=W at*;generalize tI (treesG r.g)=Ts at*;obtain ⟨n',es,ar⟩:=r;have hB2:ACall Tryz.prog 64 [tG ⟨n',es⟩,A0m d] (A0z true):=hB;have hA3:ACall Tryz.prog 25 [tG ⟨n',es⟩] (.tup [A0R Ts,A0k 0]):=hA2;refine ACall.of_body Tryz.func20 rfl (by kernel_rfl) ?_;simp only [entry,Tryz.ntmps20,tR,A0m];refine zU ?_;refine zJ (stop 1) trivial trivial trivial trivial ?_;refine AWp.freezeP 3 1 rfl rfl (ts:=[.slice (A0p d)]) rfl ?_;simp only [List.set_cons_succ,List.set_cons_zero];refine zR Qw9 (zc hR (zc hC (zc hB2 (zc hA3 (zc hF2 Qw9))))) Qw9 ?_;simp [A0y,A0x,Blk.cells,ty,Tryz.results20,A0s,A0t,toT,A0d,A0b,A0c,A0a,A0k,A0m]
   ·have hb:B9O r.g d=false:=by simpa using hb
    rw [hb] at hB;rw [hb];obtain ⟨n',es,ar⟩:=r;have hB2:ACall Tryz.prog 64 [tG ⟨n',es⟩,A0m d] (A0z false):=hB;refine ACall.of_body Tryz.func20 rfl (by kernel_rfl) ?_;simp only [entry,Tryz.ntmps20,tR,A0m];refine zU ?_;refine zR Qw9 (zc hR (zc hC (zc hB2 Qw9))) Qw9 ?_;simp [A0y,A0x,Blk.cells,ty,Tryz.results20,A0s,A0t,toT,A0d,A0b,A0c,A0a,A0k,A0m,A0p]
  ·rw [if_pos h1,if_pos h1,if_pos h1];generalize B4e d r.n=e at*;obtain ⟨n',es,ar⟩:=r;refine ACall.of_body Tryz.func20 rfl (by kernel_rfl) ?_;simp only [entry,Tryz.ntmps20,tR,A0m];refine zU ?_;refine zR (zc @h1 Qw9) (zc hR (zc hC Qw9)) Qw9 ?_;simp [A0y,A0x,Blk.cells,ty,Tryz.results20,A0s,A0t,toT,A0d,A0b,A0c,A0a,A0k,A0m,A0p]
 ·rw [if_pos h0,if_pos h0,if_pos h0];generalize ribE r=e at*;obtain ⟨n',es,ar⟩:=r;refine ACall.of_body Tryz.func20 rfl (by kernel_rfl) ?_;simp only [entry,Tryz.ntmps20,tR,A0m];refine zU ?_;refine zR (zc @h0 Qw9) (zc hR Qw9) Qw9 ?_;simp [A0y,A0x,Blk.cells,ty,Tryz.results20,A0s,A0t,toT,A0d,A0b,A0c,A0a,A0k,A0m,A0p]
open Go.Sp Go.RowKit
open Go.Sort (SWO)
theorem C4y (a b:List Int) (ha:a.length<2^40) (hb:b.length<2^40):ACall Tryz.prog 80 [A0m a,A0m b] (A0k (A1Q a b)):=by
 have hC:=B3N a b ha hb;generalize A1Q a b=c at*;refine ACall.of_body Tryz.func80 rfl (by kernel_rfl) ?_;simp only [entry,Tryz.ntmps80,A0m];refine zU ?_;refine zR Qw9 (zc hC Qw9) Qw9 ?_;simp [A0y,A0x,Blk.cells,ty,Tryz.results80,A0s,A0t,toT,A0d,A0b,A0c,A0a,A0k]
theorem A4X (a b:List Int):Go.Proofs.ltOf A1Q a b=A1O a b:=by
 unfold Go.Proofs.ltOf;cases h:A1O a b with
 | true=>rw [decide_eq_true_eq]; exact (B1e a b).1 h
 | false=>rw [decide_eq_false_iff_not]; intro q; rw [(B1e a b).2 q] at h; cases h
theorem C4z:SWO (Go.Proofs.ltOf A1Q) where
 irrefl x:=by rw [A4X]; exact B6C x
 trans x y z:=by
  rw [A4X,A4X,A4X];intro h1 h2;rw [<-Bool.not_eq_false];intro h;have h3:=A3Q _ _ _ (A2g _ _ h1) (A2g _ _ h2);have:=B1c _ _ h h3;subst this;rw [A2g _ _ h1] at h2; cases h2
 ntrans x y z:=by
  rw [A4X,A4X,A4X];intro h1 h2;exact A3Q _ _ _ h2 h1
def C5C (l:List (List Int)) (i j:Fin l.length):Int:=A1Q l[i] l[j]
theorem C5D (l:List (List Int)):SWO (Go.Proofs.ltOf (C5C l)) where
 irrefl x:=C4z.irrefl _
 trans x y z:=C4z.trans _ _ _
 ntrans x y z:=C4z.ntrans _ _ _
theorem B53 (l:List (List Int)):(List.finRange l.length).map (fun i=>l[i])=l:=by
 apply Qz8
 ·simp
 ·intro i p q; simp
theorem C0o (l:List (List Int)):(A6i (C5C l) (List.finRange l.length)).map (fun i=>l[i])=sortLL l:=by
 obtain ⟨h1,h2⟩:=B3j (C5D l) (List.finRange l.length);have h3:=h1.map fun i=>l[i];rw [B53] at h3;refine A66 ?_ h3;rw [Jj,Yz];intro i j hi hj hij;have:=h2 i j _ _ hij (Qq hi) (Qq hj);have e:Go.Proofs.ltOf (C5C l)=fun i j=>Go.Proofs.ltOf A1Q l[i] l[j]:=rfl;rw [e] at this;simp only at this;rwa [A4X] at this
theorem C40: ∀args w,(callFunc 28 args).run Tryz.prog w= .ok (.enter 28 args) w:=Go.Proofs.enters_of Tryz.func28 (by kernel_rfl) rfl
theorem C0p (f:FuncId) (hf: ∀a b:List Int,a.length<2^40->b.length<2^40->ACall Tryz.prog f [A0m a,A0m b] (A0k (A1Q a b))) (l:List (List Int)) (hpos:0<l.length) (hl:l.length<2^40) (hB: ∀B,B∈l->B.length<2^40) {H:List Blk} {id cap:Nat} (hid:H[id]? =some (.box (sC l))):
  ACallH Tryz.prog 28 H [.c (.ref id 1 0 l.length cap),.c (.fn f [])] (H.set id (.box (sC (sortLL l)))) (.tup []):=by
 have hb: ∀i:Fin l.length,l[i].length<2^40:=fun i=>hB _ (Xw i.isLt)
 have h:=A9w (cap:=cap) laySortL (fun i:Fin l.length=>A0p l[i]) (C5C l) (C5D l) f (fun x y=>hf l[x] l[y] (hb x) (hb y)) C40 (List.finRange l.length) (by simpa using hpos) (by simp; omega) (
  by
  rw [hid]; congr 2;conv=>lhs; rw [<-B53 l]
  unfold sC
  rw [Vv]; rfl)
 have e:(A6i (C5C l) (List.finRange l.length)).map (fun i=>ACell.slice (A0p l[i]) .none)=sC (sortLL l):=by
  rw [<-C0o]; unfold sC; rw [Vv]; rfl
 rw [List.length_finRange] at h;rw [<-e];exact h
theorem C2q (l:List (List Int)) (hpos:0<l.length) (hl:l.length<2^40) (hB: ∀B,B∈l->B.length<2^40) {H:List Blk} {id cap:Nat} (hid:H[id]? =some (.box (sC l))):
  ACallH Tryz.prog 28 H [.c (.ref id 1 0 l.length cap),.c (.fn 80 [])] (H.set id (.box (sC (sortLL l)))) (.tup []):=C0p _ C4y l hpos hl hB hid
end
theorem C6x (n:Int) (es:List E) (a b:Nat): ∀(id:Nat) (blk:Blk),[Blk.box [.int .i64 n,.slice (A0f es) .none],.dead,.chain a b][id]? =some blk->B7K blk:=C1J fun blk hb=>by
 simp only [Qw,Qk,or_false] at hb;rcases hb with rfl | rfl | rfl
 ·intro c hc;simp only [Qw,Qk,or_false] at hc;rcases hc with rfl | rfl
  ·exact Qw7
  ·exact B9h es
 ·exact Qw7
 ·exact Qw7
noncomputable def C5E (g:G):List (List Int):=(tI (treesG g)).map (A3n (B6W g))
theorem C41 (g:G) (hl:g.es.length≤40) (hT:A0r g=0->(treesG g).length≤16384):
  ACall Tryz.prog 26 [tG g] (.tup [A0R (if A0r g≠0 then [] else sortLL (C5E g)),A0k (A0r g)]):=by
 have hJ:=B0r g hl;by_cases h0:A0r g=0
 ·rw [if_neg (by omega)];have hR:=B3Q g hl;have hA:=B4j g hl (hT h0);have hTl:=hT h0;rw [h0] at hR hA hJ ⊢;have hr:=C0k h0;have hs:RSm (B6W g):=C3T hl h0;have h12:1≤g.n∧g.n≤12:=(A0h.1 hr.c).1;have hD: ∀t,t∈tI (treesG g)->ACall Tryz.prog 56 [tR (B6W g),A0m t] (A0m (A3n (B6W g) t)):=fun t ht=>by
   have:=A3m hr ht;have h3:(B6W g).n.toNat=g.n.toNat:=rfl;exact A25 (B6W g) t hs this.1 (by omega)
  have hne:tI (treesG g)≠[]:=by
   obtain ⟨hM,hJ2⟩:=C0m h0;obtain ⟨T,hT2⟩:=C2p hr hM hJ2;intro e;have:zI T∈tI (treesG g):=QJ.2 ⟨T,hT2,rfl⟩;rw [e] at this; cases this
  have hdl: ∀t,(A3n (B6W g) t).length≤12:=fun t=>by rw [A4m]; show g.n.toNat≤12; omega
  have hR2:ACall Tryz.prog 79 [tG g] (.tup [tR (B6W g),A0k 0]):=hR;have hA2:ACall Tryz.prog 25 [tG g] (.tup [A0R (tI (treesG g)),A0k 0]):=hA;clear hR hA hT;have hTl2:(tI (treesG g)).length≤16384:=by rw [B2K]; exact hTl
  unfold C5E;generalize A3n (B6W g)=dF at*;generalize tI (treesG g)=Ts at*;have hln:(Ts.map dF).length=Ts.length:=Zq _;have hS:=fun (H:List Blk) (cap:Nat) hid=>C2q (Ts.map dF) (by rw [hln]; exact Ww.2 hne) (by omega) (fun B hB=>by obtain ⟨t,_,rfl⟩:=QJ.1 hB; have:=hdl t; omega) (H:=H) (id:=3) (cap:=cap) hid;generalize B6W g=r0 at*;clear hr hs hTl h12;obtain ⟨rn,res,rar⟩:=r0;obtain ⟨n,es⟩:=g;refine ACall.of_bodyF Tryz.func26 rfl (by kernel_rfl) ?_;simp only [entry,Tryz.ntmps26,tG];refine zU ?_
  repeat' ((fail_if_success (with_reducible refine AWp.atSeq 11 ?_));(fail_if_success (with_reducible refine AWp.atLast 11 ?_));first|((first|(refine zT ?_;intro K' hK')|(refine zG ?_ ?_<;>(try refine zH ?_)<;>intro hguard<;>(try exact zX)<;>try intro K' hK'))<;>((try simp+contextual only [go_sem]);(repeat' first|(with_reducible refine hK' _ _ ?_;clear hK' K')|((with_reducible first|refine zK hJ ?_|refine zK hR2 ?_|refine zK hA2 ?_);try simp+contextual only [go_sem])|exact zY|with_reducible refine Qw8 ?_ ?_|(with_reducible intro hpath;try exact zP)|(refine hK' _ _ ?_;clear hK' K')|fail);try refine zS ?_))|(refine zE ?_;refine hK _ _ ?_;clear hK K)|(refine zN ?_;try refine zS ?_)|refine zA ?_|(refine zB ?_;intro K hK)|(refine zC ?_ ?_<;>(try refine zH ?_)<;>intro hcond<;>try exact zX)|(with_reducible refine FWp.seq ?_)|fail)
  refine AWp.weak (Weak.opens ((fun t f=>[f,f,f,f,f,f,f,f,t,f,f,f,f,f,f,f,f,f,f,f,f,f,f,f,f,f,f,f,f,f,f,f,f,f,f,f,f,f,f,f,f,f,f,f,f,f,f,f]) true false) 1 (by first | omega | simp)) ?_;simp only [A27,A8q,List.length_cons,List.length_nil,Xv,Nat.reduceAdd,List.cons_append,List.nil_append]
  repeat' (first|((first|(refine zT ?_;intro K' hK')|(refine zG ?_ ?_<;>(try refine zH ?_)<;>intro hguard<;>(try exact zX)<;>try intro K' hK'))<;>((try simp+contextual only [go_sem,A0o]);(repeat' first|(with_reducible refine hK' _ _ ?_;clear hK' K')|exact zY|with_reducible refine Qw8 ?_ ?_|(with_reducible intro hpath;try exact zP)|(refine hK' _ _ ?_;clear hK' K')|fail);try refine zS ?_))|(refine zE ?_;refine hK _ _ ?_;clear hK K)|(refine zN ?_;try refine zS ?_)|refine zA ?_|(refine zB ?_;intro K hK)|(refine zC ?_ ?_<;>(try refine zH ?_)<;>intro hcond<;>try exact zX)|(with_reducible refine FWp.seq ?_)|fail)
  refine AWp.loopS (α:=Nat) 48 (fun i=>[(5,.c (.ptr 1 0)),(8,.c (.slice (A00 ((Ts.take i).map dF)) (.chain 2))),(32,.c (.slice (A00 Ts) .none)),(33,.c (.int .i64 (Ts.length:Int))),(34,.c (.int .i64 (i:Int)))]) (fun i=>[.box [.int .i64 n,.slice (A0f es) .none],.box [.int .i64 rn,.slice (A0f res) .none,.slice (A00 rar) .none],.chain i 1]) (fun i=>i≤Ts.length) (fun i=>Ts.length-i) (0) (hk:=Weak.headL 3 48 [5,8,32,33,34] (zV @C4o)) (h0:=?_) (round:=fun i hI=>?_)
  ·exact Xj _
  ·have hi:i≤Ts.length:=hI;clear hI;by_cases hlt:i<Ts.length
   ·have hltI:(i:Int)<(Ts.length:Int):=by omega
    have e0:=Qq hlt;have e1:=A0W e0;have d1:=hD _ (Xw hlt);have t1:(Ts.take (i+1)).map dF=(Ts.take i).map dF++[dF Ts[i]]:=by rw [XX hlt,Jv]; rfl
    have hlk:((Ts.take i).map dF).length=i:=by rw [Zq,Wv]; omega
    generalize dF Ts[i]=y at*;generalize Ts[i]=x at*;generalize hK1:(Ts.take (i+1)).map dF=K1 at*;generalize (Ts.take i).map dF=K0 at*;refine zRc (zc @hltI (zc @e1 (zc @A0o (zc @A5M (zc @hlk Qw9))))) (zc d1 Qw9) @A3e ?_;rw [<-t1];refine ⟨i+1,Weak.headF 3 48 [5,8,32,33,34] (zc @hK1 Qw9) (zV @C4o),?_,?_⟩
    ·exact hlt
    ·omega
   ·have ei:i=Ts.length:=by omega
    have hnl: ¬((i:Int)<(Ts.length:Int)):=by omega
    rw [ei] at hnl;rw [ei,Zy];have hne2:Ts.map dF≠[]:=by simpa using hne
    generalize Ts.map dF=O at*;rw [<-hln] at hnl;rw [<-hln]
    repeat' ((fail_if_success (with_reducible refine FWp.atSeq 16 ?_));first|((first|(refine zT ?_;intro K' hK')|(refine zG ?_ ?_<;>(try refine zH ?_)<;>intro hguard<;>(try exact zX)<;>try intro K' hK'))<;>((try simp+contextual only [go_sem,hnl]);(repeat' first|(with_reducible refine hK' _ _ ?_;clear hK' K')|exact zY|with_reducible refine Qw8 ?_ ?_|(with_reducible intro hpath;try exact zP)|(refine hK' _ _ ?_;clear hK' K')|fail);try refine zS ?_))|(refine zE ?_;refine hK _ _ ?_;clear hK K)|(refine zN ?_;try refine zS ?_)|refine zA ?_|(refine zB ?_;intro K hK)|(refine zC ?_ ?_<;>(try refine zH ?_)<;>intro hcond<;>try exact zX)|(with_reducible refine FWp.seq ?_)|fail)
    refine FWp.weak (Weak.head2 (m:=3) (by omega) ((fun t f=>[f,f,f,f,f,f,f,f,t,f,f,f,f,f,f,f,f,f,f,f,f,f,f,f,f,f,f,f,f,f,f,f,f,f,f,f,f,f,f,f,f,f,f,f,f,f,f,f]) true false) rfl rfl (zV @C4o)) ?_;simp only [mask,List.take_succ_cons,List.take_zero,List.set_cons_succ,List.set_cons_zero];refine FWp.weak (Weak.dead 1 rfl (Xj _)) ?_;simp only [List.set_cons_succ,List.set_cons_zero];refine FWp.thawLT 8 rfl rfl (fun r hr=>A3e hr) (by decide) (fun r hr=>C1I hr) (by simpa [A00] using hne2) (C6x _ _ _ _) (by simp [C3k,B3i,A9v]) (fun id h=>absurd h (Nat.not_lt_zero _)) (fun cap hcap=> ?_);rw [C4p,A0o];rw [A0o] at hcap;simp only [List.length_cons,List.length_nil,List.set_cons_succ,List.set_cons_zero,List.cons_append,List.nil_append,Nat.reduceAdd];refine FWp.of_awp ?_;have hsl:(sortLL O).length=O.length:=(A2s O).length_eq;have hS2:=hS [.box [.int .i64 n,.slice (A0f es) .none],.dead,.chain O.length 1,.box (sC O)] cap rfl;generalize sortLL O=X at*
    repeat' (first|((first|(refine zT ?_;intro K' hK')|(refine zG ?_ ?_<;>(try refine zH ?_)<;>intro hguard<;>(try exact zX)<;>try intro K' hK'))<;>((try simp+contextual only [go_sem]);(repeat' first|(with_reducible refine hK' _ _ ?_;clear hK' K')|((with_reducible first|refine ⟨_,_,hS2,?_⟩|refine ⟨_,hS2,?_⟩);try simp+contextual only [go_sem])|exact zY|with_reducible refine Qw8 ?_ ?_|(with_reducible intro hpath;try exact zP)|(refine hK' _ _ ?_;clear hK' K')|fail);try refine zS ?_))|(refine zE ?_;refine hK _ _ ?_;clear hK K)|(refine zN ?_;try refine zS ?_)|refine zA ?_|(refine zB ?_;intro K hK)|(refine zC ?_ ?_<;>(try refine zH ?_)<;>intro hcond<;>try exact zX)|fail)
    have h1:=C4q X;rw [hsl] at h1;have h2:(sC X).take O.length=sC X:=ZJ (by rw [C2I]; omega);simp [A0y,A0x,Tryz.results26,A0s,A0t,A0d,A0b,Blk.cells,hcap,h2,h1.1,h1.2];rw [if_pos (by rw [C2I]; omega)];rfl
 ·rw [if_pos h0];generalize A0r g=e at*;obtain ⟨n',es⟩:=g;refine ACall.of_body Tryz.func26 rfl (by kernel_rfl) ?_;simp only [entry,Tryz.ntmps26,tG];refine zU ?_;refine zR (zc @h0 Qw9) (zc hJ Qw9) Qw9 ?_;simp [A0y,A0x,Blk.cells,ty,Tryz.results26,A0s,A0t,toT,A0d,A0b,A0c,A0a,A0k,A0R,A00]
end Go.Proofs.YtdbdfkohpjefjaaGreat
