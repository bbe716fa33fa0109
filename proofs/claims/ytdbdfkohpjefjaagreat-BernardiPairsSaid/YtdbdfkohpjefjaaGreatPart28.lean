/- A part of the proof. -/
import Derived.Test.YtdbdfkohpjefjaaGreatPart24
import Derived.Test.YtdbdfkohpjefjaaGreatPart25
set_option linter.all false
set_option maxHeartbeats 4000000
set_option maxRecDepth 100000
namespace Go.Proofs.YtdbdfkohpjefjaaGreat
open Go.Sp
noncomputable def A4w (g:G):Nat->List (List Int)
 | 0=>[]
 | w+1=>if treeB g.n.toNat (endsL g.es) (zI (setN (endsL g.es).length w))=true then A4w g w++[zI (setN (endsL g.es).length w)] else A4w g w
def B6i (g:G): ∀w,(A4w g w).length≤w
 | 0=>by simp [A4w]
 | w+1=>by have:=B6i g w; unfold A4w; split<;>simp<;>omega
def A8w {g:G} {x:List Int}: ∀{m:Nat},x∈A4w g m↔ ∃w,w<m∧x=zI (setN (endsL g.es).length w)∧treeB g.n.toNat (endsL g.es) x=true
 | 0=>by simp [A4w]
 | m+1=>by
  have ih:= @A8w g x m;unfold A4w;constructor
  ·intro h;split at h
   ·rename_i ht;rcases XY.1 h with h | h
    ·obtain ⟨w,hw,q⟩:=ih.1 h; exact ⟨w,by omega,q⟩
    ·rw [Zq] at h; exact ⟨m,by omega,h,by rw [h]; exact ht⟩
   ·obtain ⟨w,hw,q⟩:=ih.1 h; exact ⟨w,by omega,q⟩
  ·rintro ⟨w,hw,rfl,q⟩;by_cases e:w=m
   ·subst e; rw [if_pos q]; simp
   ·have:=ih.2 ⟨w,by omega,rfl,q⟩;split
    ·exact Qw4 _ this
    ·exact this
noncomputable def A9F (g:G):List (List Int):=sortLL (A4w g (2^(endsL g.es).length))
def C0R (g:G) (hc:checkG g=0) (hl:g.es.length≤40) (hE:(endsL g.es).length≤20):ACall Tryz.prog 60 [tG g] (A0S (A9F g)):=by
 have hs:=B6G (g:=g) (by omega) hc;have hZ:=A8g g hs.s hs.es hs.m;have hS:=fun w hw=>C5l (endsL g.es).length w (by omega) hw
 have hIs:=fun w=>C7r g (zI (setN (endsL g.es).length w)) hl hc (fun x hx=>by
  obtain ⟨a,rfl,ha,-⟩:=B6c.1 hx; omega) (by rw [A3C]; have:=A55 (endsL g.es).length w; omega)
 have hzl: ∀w,(zI (setN (endsL g.es).length w)).length≤20:=fun w=>by rw [A3C]; have:=A55 (endsL g.es).length w; omega
 have hsl:=B6i g;have hsu: ∀w,A4w g (w+1)=if treeB g.n.toNat (endsL g.es) (zI (setN (endsL g.es).length w))=true then A4w g w++[zI (setN (endsL g.es).length w)] else A4w g w:=fun _=>rfl
 have hpE:2^(endsL g.es).length≤2^20:=Qj0 (by omega) hE
 have hO:ACall Tryz.prog 104 [A0S (A4w g (2^(endsL g.es).length))] (A0S (A9F g)):=B7z _ (by have:=hsl (2^(endsL g.es).length); omega) (fun x hx=>by
  obtain ⟨w,-,rfl,-⟩:=A8w.1 hx
  have:=hzl w; omega)
 have hz:A0p []=A0u (A4w g 0):=rfl;have hz1:(A4w g 0).length=0:=rfl;generalize A9F g=R at*;generalize A4w g=sp at*;obtain ⟨n,es⟩:=g;simp only at*;generalize treeB n.toNat (endsL es)=tB at*;generalize endsL es=L at*;generalize L.length=E at*;refine ACall.of_body Tryz.func60 rfl (by kernel_rfl) ?_;simp only [entry,Tryz.ntmps60,tG];refine zU ?_;refine zR Qv6 (zc hZ Qv6) Qv6 ?_;rw [show (1:Int)=((2^0:Nat):Int) from rfl];refine AWp.loopS (α:=Nat) 35 (fun i=>[(1,.c (.ptr 0 0)),(3,.c (.int .i64 (E:Int))),(4,.c (.int .i64 ((2^i:Nat):Int))),(5,.c (.int .i64 (i:Int)))]) (fun i=>[.box [.int .i64 n,.slice (A0f es) .none]]) (fun i=>i≤E) (fun i=>E-i) (0) (hk:=Weak.headL 1 35 [1,3,4,5] zW) (h0:=?_) (round:=fun i hI=>?_)
 ·exact Xw _
 ·have hi:i≤E:=hI;clear hI;by_cases hlt:i<E
  ·have hltI:(i:Int)<(E:Int):=by omega
   have hp:2^(i+1)=2^i*2:=Nat.pow_succ 2 i;have hpl:2^i≤2^20:=Qj0 (by omega) (by omega);generalize hQ:2^(i+1)=Q1 at*;generalize 2^i=Q at*;have hpI:(Q:Int)*2=(Q1:Int):=by omega
   refine zR (zc @hltI (zc @hpI Qv6)) Qv6 Qv6 ?_;refine ⟨i+1,Weak.headF 1 35 [1,3,4,5] (zc @hQ Qv6) zW,?_,?_⟩
   ·exact hlt
   ·omega
  ·have ei:i=E:=by omega
   have hnl: ¬(i:Int)<(E:Int):=by omega
   rw [ei] at hnl;rw [ei];clear hlt hi ei;generalize 2^E=P at*;refine zJ (stop 9) (zc @hnl Qv6) Qv6 Qv6 Qv6 ?_;refine AWp.weak (Weak.opens ((fun t f=>[f,f,f,f,f,f,t,f,f,f,f,f,f,f,f,f,f,f,f,f,f,f,f,f,f,f,f,f,f,f,f,f,f,f,f]) true false) 1 (by first | omega | simp)) ?_;simp only [A2F,A8H,List.length_cons,List.length_nil,Xv,Nat.reduceAdd,List.cons_append,List.nil_append];refine zR Qv6 Qv6 Qv6 ?_;rw [show AVal.c (ACell.slice [] (.chain 1))=AVal.c (ACell.slice (A0u (sp 0)) (.chain 1)) by rw [<-hz]; rfl,show Blk.chain 0 1=Blk.chain (sp 0).length 1 by rw [hz1]];refine AWp.loopS (α:=Nat) 35 (fun w=>[(1,.c (.ptr 0 0)),(3,.c (.int .i64 (E:Int))),(4,.c (.int .i64 (P:Int))),(6,.c (.slice (A0u (sp w)) (.chain 1))),(7,.c (.int .i64 (w:Int)))]) (fun w=>[.box [.int .i64 n,.slice (A0f es) .none],.chain (sp w).length 1]) (fun w=>w≤P) (fun w=>P-w) (0) (hk:=Weak.headL 2 35 [1,3,4,6,7] zW) (h0:=?_) (round:=fun w hI=>?_)
   ·exact Xw _
   ·have hw:w≤P:=hI;clear hI;by_cases hwl:w<P
    ·have hwI:(w:Int)<(P:Int):=by omega
     have hS1:=hS w (by omega);have hI1:=hIs w;have hs1:=hsu w;have hl1:=hsl w;generalize zI (setN E w)=T at*;generalize hX1:sp (w+1)=X1 at*;generalize sp w=X at*;by_cases hb:tB T=true
     ·rw [if_pos hb] at hs1;rw [hb] at hI1;have hln:X1.length=X.length+1:=by rw [hs1]; simp
      refine zRc (zc @hwI (zc @A0o (zc @A5V Qv6))) (zc hS1 (zc hI1 Qv6)) @A3l ?_;rw [<-hs1];refine ⟨w+1,Weak.headF 2 35 [1,3,4,6,7] (zc @hX1 (zc @hln Qv6)) zW,?_,?_⟩
      ·exact hwl
      ·omega
     ·rw [if_neg hb] at hs1;have hb:tB T=false:=by simpa using hb
      rw [hb] at hI1;refine zR (zc @hwI Qv6) (zc hS1 (zc hI1 Qv6)) Qv6 ?_;rw [<-hs1];refine ⟨w+1,Weak.headF 2 35 [1,3,4,6,7] (zc @hX1 Qv6) zW,?_,?_⟩
      ·exact hwl
      ·omega
    ·have ew:w=P:=by omega
     have hnl: ¬(w:Int)<(P:Int):=by omega
     rw [ew] at hnl;rw [ew];generalize sp P=X at*;refine zR (zc @hnl Qv6) (zc hO Qv6) Qv6 ?_;simp [A00,A0z,Blk.cells,ty,Tryz.results60,A0v,A0w,toT,A0d,A0b,A0c,A0a,A0S]
def sC (O:List (List Int)):List ACell:=O.map fun x=> .slice (A0p x) .none
def C3d {m:Nat} {O:List (List Int)}:Go.Sp.cellsIn m (sC O):=fun c hc=>by
 obtain ⟨x,_,rfl⟩:=QJ.1 hc; exact Qv4
def A9G (O:List (List Int)):(sC O).length=O.length:=by simp [sC]
def C5x (O:List (List Int)):flatRows (A0u O)=sC O:=by
 unfold flatRows A0u sC
 induction O with
 | nil=>rfl
 | cons x l ih=>simp only [XQ,List.flatten_cons,WY,ZX,List.singleton_append] at ih ⊢; rw [ih]; rfl
def C0S (O:List (List Int)):(sC O).mapM A0a=some (O.map fun x=>Tree.slice (A0p x))∧chunks 1 O.length (O.map fun x=>Tree.slice (A0p x))=A0u O:=by
 unfold sC;constructor
 ·induction O with
  | nil=>rfl
  | cons x l ih=>simp only [XQ,JZ,ih]; rfl
 ·have h:=B4s (O.map fun x=>Tree.slice (A0p x));rw [XW] at h;rw [h]; simp [A0u]
def C5y {g:G} (hl:g.es.length≤40) (hj:A0t g=0):RSm ⟨g.n,g.es,A1l (endsL g.es) g.n.toNat (2*(endsL g.es).length)⟩:=by
 have hc:checkG g=0:=by
  unfold A0t at hj;by_cases h:checkG g=0
  ·exact h
  ·rw [if_pos h] at hj; exact absurd hj h
 have h12:=(A0j.1 hc).1;have hlen:=A1T hl hc;refine ⟨hl,by simp only [A0J]; omega,fun l hm=> ?_⟩;obtain ⟨v,_,rfl⟩:=QJ.1 hm;have:=A8m (endsL g.es) (v:Int) (2*(endsL g.es).length);omega
structure Tw (r d b:R) (l m:List Int) (E B:Nat):Prop where
 d1:dualD r=d
 d2:dualE r=0
 d3:dualN r=l
 b1:dualD d=b
 b2:dualE d=0
 b3:dualN d=m
 sd:RSm d
 sb:RSm b
 ed:ribE d=0
 eb:ribE b=0
 gen:genusR d=genusR r
 bn:b.n=r.n
 ll:l.length=E
 ml:m.length=E
 e9:E≤9
 eE:(endsL r.es).length=E
 lr: ∀x,x∈l->0≤x∧x<E
 mr: ∀x,x∈m->0≤x∧x<E
 br: ∀w,w∈b.ar-> ∀x,x∈w->0≤x∧x<2*E
 hB:B<2^E
 test:sortLL (b.ar.map (renL (behI (invK l (flB E B) l.length) (invK m (List.replicate E false) m.length) (2*E))))=sortLL r.ar
def comp (E:Nat) (S:List Nat):List Nat:=(List.range E).filter fun y=>decide (¬y∈S)
section
variable {r:R}
end
def C5z (g:G):ACall Tryz.prog 59 [tG g] (A0x (A1S g 5 8)):=by
 have h:=B6b g 5 8;generalize A1S g 5 8=b at*;obtain ⟨n,es⟩:=g;refine ACall.of_body Tryz.func59 rfl (by kernel_rfl) ?_;simp only [entry,Tryz.ntmps59,tG];refine zU ?_;refine zR Qv6 (zc h Qv6) Qv6 ?_;simp [A00,A0z,Blk.cells,ty,Tryz.results59,A0v,A0w,toT,A0d,A0b,A0c,A0a,A0x]
end Go.Proofs.YtdbdfkohpjefjaaGreat
