/- A part of the proof. -/
import Derived.Test.YtdbdfkohpjefjaaGreatPart35
import Derived.Test.YtdbdfkohpjefjaaGreatPart34
set_option linter.all false
set_option maxHeartbeats 4000000
set_option maxRecDepth 100000
namespace Go.Proofs.YtdbdfkohpjefjaaGreat
open Go.Sp
set_option maxHeartbeats 2000000
set_option maxHeartbeats 2000000
theorem A4Y {n:Nat} {L:List (Int×Int)} {T:List Nat}:T∈allT n L↔T.Pairwise (·< ·)∧(∀x,x∈T->x<L.length)∧T.length+1=n∧A57 (pkN L T):=by
 unfold allT;rw [A6n (show A57 (pkN L []) from A6k)];constructor
 ·rintro ⟨s,rfl,h1,h2,h3,h4⟩;exact ⟨h1,fun x hx=>by have:=h2 x hx; omega,h3,h4⟩
 ·rintro ⟨h1,h2,h3,h4⟩;exact ⟨T,rfl,h1,fun x hx=>by have:=h2 x hx; omega,h3,h4⟩
theorem B0J {n:Nat} {L:List (Int×Int)} (h0:0<n) (hL:InN n L) {T:List Nat} (hT: ∀x,x∈T->x<L.length):treeB n L (zI T)=true↔T.length+1=n∧A57 (pkN L T):=by
 have hpk:pkN L T=pkL L (zI T):=B8u L T;have hin:=B1Q hL (t:=zI T) fun x hx=>by
  obtain ⟨a,ha,rfl⟩:=Xq.1 hx;have:=hT a ha; omega
 have hn:=(A6l (pkL L (zI T)) hin).2;rw [hpk,hn];unfold treeB;rw [decide_eq_true_eq,A6f,A2S,A6f];omega
theorem B8R {n:Nat} {L:List (Int×Int)} {t u:List Int} (h:t.Perm u):treeB n L t=treeB n L u:=by
 have hl:=h.length_eq;have hc: ∀x y,Conn (pkL L t) x y↔Conn (pkL L u) x y:=fun x y=>by
  have hm: ∀p,p∈pkL L t↔p∈pkL L u:=fun p=>(h.map _).mem_iff;exact ⟨Conn.mono fun p hp=>(hm p).1 hp,Conn.mono fun p hp=>(hm p).2 hp⟩
 unfold treeB;rw [hl,A25 fun x y _ _=>hc x y]
set_option maxHeartbeats 2000000
def B5Z (g:G):R:=⟨g.n,g.es,A1h (endsL g.es) g.n.toNat (2*(endsL g.es).length)⟩
theorem C2M (L:List (Int×Int)) (v:Int) (k:Nat):(ownL L v k).Nodup:=by
 unfold ownL;exact JJ.2 ((List.pairwise_lt_range.filter _).imp fun {a b} h e=>by have:a=b:=Int.ofNat.inj e; omega)
theorem B8S {g:G} (h:A0w g=0):ROk (B5Z g):=by
 obtain ⟨hc,hcon⟩:=A7j h;have h12:=(A0j.1 hc).1;refine ⟨hc,hcon,?_,fun i l hl=> ?_⟩
 ·show ((A1h (endsL g.es) g.n.toNat (2*(endsL g.es).length)).length:Int)=g.n;rw [A0G]; omega
 ·have hl:(A1h (endsL g.es) g.n.toNat (2*(endsL g.es).length))[i]? =some l:=hl;have hi:i<g.n.toNat:=by have:=(Qx.1 hl).1; rwa [A0G] at this
  rw [A2L hi] at hl;cases hl;exact ⟨C2M _ _ _,fun _ h=>h,fun _ h=>h,rfl,.inr rfl⟩
theorem B8T {n:Nat} {L:List (Int×Int)} {g:Nat->Nat} (h0:0<n) (hL:InN n L) (hg:B5H L g) {t:List Int} (ht: ∀x,x∈t->0≤x∧x<(L.length:Int)) (hb:treeB n L t=true): ∃T,T∈allT n L∧A7u (zI T)=A7u t:=by
 have hnd:t.Nodup:=by
  unfold treeB at hb;obtain ⟨hl,hc⟩:=of_decide_eq_true hb;have hac:A57 (pkL L t):=(A6l _ (B1Q hL ht)).2.2 (by rw [hc,A2S]; omega);exact A9P hg hac ht
 let T:=setN L.length (B3z (A7u t) L.length);have hTs:T.Pairwise (·< ·):=List.pairwise_lt_range.filter _;have hTm: ∀x:Nat,x∈T↔x<L.length∧(x:Int)∈t:=fun x=>by
  show x∈(List.range L.length).filter _↔_;rw [JX,XJ,decide_eq_true_eq,B2e];constructor
  ·rintro ⟨h,q⟩;rw [A6Q _ _ _ h] at q;exact ⟨h,of_decide_eq_true q⟩
  ·rintro ⟨h,q⟩;exact ⟨h,by rw [A6Q _ _ _ h]; exact decide_eq_true q⟩
 have hzm: ∀x,x∈zI T↔x∈t:=fun x=>by
  constructor
  ·intro h;obtain ⟨a,ha,rfl⟩:=Xq.1 h;exact ((hTm a).1 ha).2
  ·intro h;have:=ht x h;refine Xq.2 ⟨x.toNat,(hTm _).2 ⟨by omega,?_⟩,by show ((x.toNat:Nat):Int)=x; omega⟩;rw [show ((x.toNat:Nat):Int)=x by omega]; exact h
 have hp:(zI T).Perm t:=(Qx1 (JJ.2 (hTs.imp fun {a b} h e=>by have:a=b:=Int.ofNat.inj e; omega)) hnd).2 hzm;have hlt: ∀x,x∈T->x<L.length:=fun x hx=>((hTm x).1 hx).1;have hb2:treeB n L (zI T)=true:=by rw [B8R hp]; exact hb
 have h3:=(B0J h0 hL hlt).1 hb2;refine ⟨T,A4Y.2 ⟨hTs,hlt,h3.1,h3.2⟩,?_⟩;funext e;unfold A7u;rw [Qj1,decide_eq_true_eq,decide_eq_true_eq];exact hzm _
theorem A9W {r:R} (hr:ROk r) {T:List Nat} (hT:T∈treesG r.g):(∀x,x∈zI T->0≤x∧x<((endsL r.es).length:Int))∧treeB r.n.toNat (endsL r.es) (zI T)=true:=by
 obtain ⟨h1,h2,h3,h4⟩:=A4Y.1 hT;exact ⟨fun x hx=>by obtain ⟨a,ha,rfl⟩:=Xq.1 hx; have:=h2 a ha; have e:(endsL r.g.es).length=(endsL r.es).length:=rfl; omega,(B0J (A47 hr) (B0B hr) h2).2 ⟨h3,h4⟩⟩
set_option maxHeartbeats 2000000
theorem C0O {r:R} (hr:ROk r) {M:Nat->Nat->Int} (hM:Mult r.n.toNat M) (hJ:Joins (endsL r.es).length r.n.toNat (gR (endsL r.es)) M): ∃T,T∈treesG r.g:=by
 have hq:=A47 hr;have hA:=B4x hr;have hR:=C3K hM hq (A7h hr).lt hA hJ;obtain ⟨R0,hR0⟩:=B5J hR hM;have hp: ∀v,v<r.n.toNat->v≠0->0<(arN r v).length:=fun v hv hn=>by rw [<-C3L (g:=gR (endsL r.es))]; exact hR.pos v hv hn
 have hH: ∀v,v<r.n.toNat->v≠0->C09 (arN r) R0 v<2*(endsL r.es).length∧gR (endsL r.es) (C09 (arN r) R0 v)=v:=fun v hv hn=>C0A hA R0 hv (hp v hv hn);have ht:=B5I hq (A4W hr) hH ((B8r hp).1 hR0);have hrange: ∀y,y∈A8H r.n.toNat 0 (C09 (arN r) R0)->0≤y∧y<((endsL r.es).length:Int):=fun y hy=>by
  obtain ⟨v,hv,hn,rfl⟩:=B1S.1 hy;have:=(hH v hv hn).1;omega
 obtain ⟨T,hT,-⟩:=B8T hq (B0B hr) (A4W hr) hrange ht;exact ⟨T,hT⟩
theorem B8U {g:G} (h:A0w g=0):Mult g.n.toNat (mulE g.es)∧Joins (endsL g.es).length g.n.toNat (gR (endsL g.es)) (mulE g.es):=by
 obtain ⟨hc,hcon⟩:=A7j h;have h12:=(A0j.1 hc).1;exact ⟨(C2r hc (n:=g.n.toNat) (by omega) hcon).2,B85 (B8S h)⟩
set_option maxHeartbeats 2000000
end Go.Proofs.YtdbdfkohpjefjaaGreat
