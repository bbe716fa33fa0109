/- A part of the proof. -/
import Derived.Test.YtdbdfkohpjefjaaGreatPart21
import Derived.Test.YtdbdfkohpjefjaaGreatPart20
set_option linter.all false
set_option maxHeartbeats 4000000
set_option maxRecDepth 100000
namespace Go.Proofs.YtdbdfkohpjefjaaGreat
open Go.Sp
variable {d:List Int}
def C0R {i:Nat} (h:i<d.length):d.getD i 0=d[i]:=by
 rw [Qz,Qq h]; rfl
def inD (k:Int):Bool:=decide (-1048576≤k∧k≤1048576)
def B31 (d:List Int) (n:Int):Int:=if n<1∨12<n then 2 else if (d.length:Int)≠n then 8 else if d.all inD=true then 0 else 2
def B5d {n:Nat} (h:B31 d n=0):1≤n∧n≤12∧d.length=n∧bndL 1048576 d:=by
 unfold B31 at h;split at h
 ·cases h
 ·split at h
  ·cases h
  ·split at h
   ·rename_i h1 h2 h3;refine ⟨by omega,by omega,by omega,fun v=> ?_⟩;by_cases hv:v<d.length
    ·rw [C0R hv];have:=ZX.1 h3 _ (Xw hv);unfold inD at this;simpa using this
    ·rw [Qz,Xq (by omega)]; simp
   ·cases h
def C6X (k:Int):ACall Tryz.prog 61 [A0j k] (A0q (inD k)):=by
 unfold inD;by_cases h1: -1048576≤k
 ·by_cases h2:k≤1048576
  ·have h3:k≥ -1048576:=h1;rw [decide_eq_true ⟨h1,h2⟩];refine ACall.of_body Tryz.func61 rfl (by kernel_rfl) ?_;simp only [entry,Tryz.ntmps61,A0j];refine zU ?_;refine zR (zc @h3 (zc @h2 Qv5)) Qv5 Qv5 ?_;simp [A0s,A0r,Blk.cells,ty,Tryz.results61,A0o,A0p,toT,A0d,A0b,A0c,A0a,A0q]
  ·have h3:k≥ -1048576:=h1;rw [decide_eq_false (fun h=>h2 h.2)];refine ACall.of_body Tryz.func61 rfl (by kernel_rfl) ?_;simp only [entry,Tryz.ntmps61,A0j];refine zU ?_;refine zR (zc @h3 (zc @h2 Qv5)) Qv5 Qv5 ?_;simp [A0s,A0r,Blk.cells,ty,Tryz.results61,A0o,A0p,toT,A0d,A0b,A0c,A0a,A0q]
 ·have h3: ¬k≥ -1048576:=h1;rw [decide_eq_false (fun h=>h1 h.1)];refine ACall.of_body Tryz.func61 rfl (by kernel_rfl) ?_;simp only [entry,Tryz.ntmps61,A0j];refine zU ?_;refine zR (zc @h3 Qv5) Qv5 Qv5 ?_;simp [A0s,A0r,Blk.cells,ty,Tryz.results61,A0o,A0p,toT,A0d,A0b,A0c,A0a,A0q]
def C0S (k:Int):ACall Tryz.prog 107 [A0j k] (A0q (inD k)):=by
 unfold inD;by_cases h1: -1048576≤k
 ·by_cases h2:k≤1048576
  ·have h3:k≥ -1048576:=h1;rw [decide_eq_true ⟨h1,h2⟩];refine ACall.of_body Tryz.func107 rfl (by kernel_rfl) ?_;simp only [entry,Tryz.ntmps107,A0j];refine zU ?_;refine zR (zc @h3 (zc @h2 Qv5)) Qv5 Qv5 ?_;simp [A0s,A0r,Blk.cells,ty,Tryz.results107,A0o,A0p,toT,A0d,A0b,A0c,A0a,A0q]
  ·have h3:k≥ -1048576:=h1;rw [decide_eq_false (fun h=>h2 h.2)];refine ACall.of_body Tryz.func107 rfl (by kernel_rfl) ?_;simp only [entry,Tryz.ntmps107,A0j];refine zU ?_;refine zR (zc @h3 (zc @h2 Qv5)) Qv5 Qv5 ?_;simp [A0s,A0r,Blk.cells,ty,Tryz.results107,A0o,A0p,toT,A0d,A0b,A0c,A0a,A0q]
 ·have h3: ¬k≥ -1048576:=h1;rw [decide_eq_false (fun h=>h1 h.1)];refine ACall.of_body Tryz.func107 rfl (by kernel_rfl) ?_;simp only [entry,Tryz.ntmps107,A0j];refine zU ?_;refine zR (zc @h3 Qv5) Qv5 Qv5 ?_;simp [A0s,A0r,Blk.cells,ty,Tryz.results107,A0o,A0p,toT,A0d,A0b,A0c,A0a,A0q]
def B5e (n:Int):ACall Tryz.prog 106 [A0j n] (A0j (if n<1∨12<n then 2 else 0)):=by
 by_cases h1:n<1
 ·rw [if_pos (.inl h1)];refine ACall.of_body Tryz.func106 rfl (by kernel_rfl) ?_;simp only [entry,Tryz.ntmps106,A0j];refine zU ?_;refine zR (zc @h1 Qv5) Qv5 Qv5 ?_;simp [A0s,A0r,Blk.cells,ty,Tryz.results106,A0o,A0p,toT,A0d,A0b,A0c,A0a,A0j]
 ·by_cases h2:n>12
  ·rw [if_pos (.inr h2)];refine ACall.of_body Tryz.func106 rfl (by kernel_rfl) ?_;simp only [entry,Tryz.ntmps106,A0j];refine zU ?_;refine zR (zc @h1 (zc @h2 Qv5)) Qv5 Qv5 ?_;simp [A0s,A0r,Blk.cells,ty,Tryz.results106,A0o,A0p,toT,A0d,A0b,A0c,A0a,A0j]
  ·rw [if_neg (by omega)];refine ACall.of_body Tryz.func106 rfl (by kernel_rfl) ?_;simp only [entry,Tryz.ntmps106,A0j];refine zU ?_;refine zR (zc @h1 (zc @h2 Qv5)) Qv5 Qv5 ?_;simp [A0s,A0r,Blk.cells,ty,Tryz.results106,A0o,A0p,toT,A0d,A0b,A0c,A0a,A0j]
def C0T {i:Nat} (h: ∀j,j<i->inD (d.getD j 0)=true) (hi:i=d.length):d.all inD=true:=by
 rw [ZX];intro x hx;obtain ⟨j,hj,rfl⟩:=Jk.1 hx;have:=h j (by omega);rwa [C0R hj] at this
def C0U {i:Nat} (hi:i<d.length) (h:inD (d.getD i 0)=false): ¬d.all inD=true:=fun ha=>by
 have:=ZX.1 ha _ (Xw hi);rw [C0R hi,this] at h;cases h
def C0V (d:List Int) (n:Int) (hdl:d.length<2^40):ACall Tryz.prog 33 [A0k d,A0j n] (A0j (B31 d n)):=by
 unfold B31;by_cases h1:n<1
 ·rw [if_pos (.inl h1)];refine ACall.of_body Tryz.func33 rfl (by kernel_rfl) ?_;simp only [entry,Tryz.ntmps33,A0k,A0j];refine zU ?_;refine zR (zc @h1 Qv5) Qv5 Qv5 ?_;simp [A0s,A0r,Blk.cells,ty,Tryz.results33,A0o,A0p,toT,A0d,A0b,A0c,A0a,A0j]
 by_cases h2:n>12
 ·rw [if_pos (.inr h2)];refine ACall.of_body Tryz.func33 rfl (by kernel_rfl) ?_;simp only [entry,Tryz.ntmps33,A0k,A0j];refine zU ?_;refine zR (zc @h1 (zc @h2 Qv5)) Qv5 Qv5 ?_;simp [A0s,A0r,Blk.cells,ty,Tryz.results33,A0o,A0p,toT,A0d,A0b,A0c,A0a,A0j]
 rw [if_neg (by omega)];by_cases hd:(d.length:Int)=n
 case neg=>
  rw [if_pos hd];refine ACall.of_body Tryz.func33 rfl (by kernel_rfl) ?_;simp only [entry,Tryz.ntmps33,A0k,A0j];refine zU ?_;refine zR (zc @h1 (zc @h2 (zc @A0e (zc @hd Qv5)))) Qv5 Qv5 ?_;simp [A0s,A0r,Blk.cells,ty,Tryz.results33,A0o,A0p,toT,A0d,A0b,A0c,A0a,A0j]
 rw [if_neg (by omega)];subst hd;refine ACall.of_body Tryz.func33 rfl (by kernel_rfl) ?_;simp only [entry,Tryz.ntmps33,A0k,A0j];refine zU ?_;refine zJ (stop 5) (zc @h1 (zc @h2 (zc @A0e Qv5))) Qv5 Qv5 Qv5 ?_;refine zR Qv5 Qv5 Qv5 ?_;refine AWp.loopS (α:=Nat) 27 (fun i=>[(0,.c (.slice (A0l d) .none)),(1,.c (.int .i64 (d.length:Int))),(5,.c (.int .i64 (i:Int)))]) (fun i=>[]) (fun i=>i≤d.length∧ ∀j,j<i->inD (d.getD j 0)=true) (fun i=>d.length-i) (0) (hk:=Weak.headL 0 27 [0,1,5] zW) (h0:=?_) (round:=fun i hI=>?_)
 ·exact ⟨Xj _,fun j hj=>by omega⟩
 ·obtain ⟨hi,hpre⟩:=hI;by_cases hil:i<d.length
  ·have hiI:(i:Int)<(d.length:Int):=by omega
   have hg:=A0t (A1t (d:=d) (i:=i) hil);have hw:=C6X (d.getD i 0);cases hin:inD (d.getD i 0) with
   | false=>
    rw [if_neg (C0U hil hin)];rw [hin] at hw;clear hpre hin;generalize d.getD i 0=x at*;refine zR (zc @hiI (zc @hg (zc @A0e (zc @XX Qv5)))) (zc hw Qv5) Qv5 ?_;simp [A0s,A0r,Blk.cells,ty,Tryz.results33,A0o,A0p,toT,A0d,A0b,A0c,A0a,A0j]
   | true=>
    have hp2: ∀j,j<i+1->inD (d.getD j 0)=true:=fun j hj=>by
     by_cases e:j=i
     ·rw [e]; exact hin
     ·exact hpre j (by omega)
    rw [hin] at hw;clear hpre hin;generalize d.getD i 0=x at*;refine zR (zc @hiI (zc @hg (zc @A0e (zc @XX Qv5)))) (zc hw Qv5) Qv5 ?_;refine ⟨i+1,Weak.headN 0 27 [0,1,5] zW,?_,?_⟩
    ·exact ⟨hil,hp2⟩
    ·omega
  ·have hnl: ¬(i:Int)<(d.length:Int):=by omega
   rw [if_pos (C0T hpre (by omega))];refine zR (zc @hnl Qv5) Qv5 Qv5 ?_;simp [A0s,A0r,Blk.cells,ty,Tryz.results33,A0o,A0p,toT,A0d,A0b,A0c,A0a,A0j]
def A9E (d:List Int) (n:Int) (hdl:d.length<2^40):ACall Tryz.prog 63 [A0k d,A0j n] (A0j (B31 d n)):=by
 have hV:=B5e n;unfold B31;by_cases h1:n<1∨12<n
 ·rw [if_pos h1] at hV ⊢;refine ACall.of_body Tryz.func63 rfl (by kernel_rfl) ?_;simp only [entry,Tryz.ntmps63,A0k,A0j];refine zU ?_;refine zR Qv5 (zc hV Qv5) Qv5 ?_;simp [A0s,A0r,Blk.cells,ty,Tryz.results63,A0o,A0p,toT,A0d,A0b,A0c,A0a,A0j]
 rw [if_neg h1] at hV ⊢;by_cases hd:(d.length:Int)=n
 case neg=>
  rw [if_pos hd];refine ACall.of_body Tryz.func63 rfl (by kernel_rfl) ?_;simp only [entry,Tryz.ntmps63,A0k,A0j];refine zU ?_;refine zR (zc @A0e (zc @hd Qv5)) (zc hV Qv5) Qv5 ?_;simp [A0s,A0r,Blk.cells,ty,Tryz.results63,A0o,A0p,toT,A0d,A0b,A0c,A0a,A0j]
 rw [if_neg (by omega)];subst hd;refine ACall.of_body Tryz.func63 rfl (by kernel_rfl) ?_;simp only [entry,Tryz.ntmps63,A0k,A0j];refine zU ?_;refine zJ (stop 7) (zc @A0e Qv5) (zc hV Qv5) Qv5 Qv5 ?_;refine AWp.loopS (α:=Nat) 27 (fun i=>[(17,.c (.slice (A0l d) .none)),(18,.c (.int .i64 (d.length:Int))),(19,.c (.int .i64 (i:Int)))]) (fun i=>[]) (fun i=>i≤d.length∧ ∀j,j<i->inD (d.getD j 0)=true) (fun i=>d.length-i) (0) (hk:=Weak.headL 0 27 [17,18,19] zW) (h0:=?_) (round:=fun i hI=>?_)
 ·exact ⟨Xj _,fun j hj=>by omega⟩
 ·obtain ⟨hi,hpre⟩:=hI;by_cases hil:i<d.length
  ·have hiI:(i:Int)<(d.length:Int):=by omega
   have hg:=A0t (A1t (d:=d) (i:=i) hil);have hw:=C0S (d.getD i 0);cases hin:inD (d.getD i 0) with
   | false=>
    rw [if_neg (C0U hil hin)];rw [hin] at hw;clear hpre hin;generalize d.getD i 0=x at*;refine zR (zc @hiI (zc @hg (zc @A0e (zc @XX Qv5)))) (zc hw Qv5) Qv5 ?_;simp [A0s,A0r,Blk.cells,ty,Tryz.results63,A0o,A0p,toT,A0d,A0b,A0c,A0a,A0j]
   | true=>
    have hp2: ∀j,j<i+1->inD (d.getD j 0)=true:=fun j hj=>by
     by_cases e:j=i
     ·rw [e]; exact hin
     ·exact hpre j (by omega)
    rw [hin] at hw;clear hpre hin;generalize d.getD i 0=x at*;refine zR (zc @hiI (zc @hg (zc @A0e (zc @XX Qv5)))) (zc hw Qv5) Qv5 ?_;refine ⟨i+1,Weak.headN 0 27 [17,18,19] zW,?_,?_⟩
    ·exact ⟨hil,hp2⟩
    ·omega
  ·have hnl: ¬(i:Int)<(d.length:Int):=by omega
   rw [if_pos (C0T hpre (by omega))];refine zR (zc @hnl Qv5) Qv5 Qv5 ?_;simp [A0s,A0r,Blk.cells,ty,Tryz.results63,A0o,A0p,toT,A0d,A0b,A0c,A0a,A0j]
def C0W (l:List Int) (hne:l≠[]) (hl:l.length<2^30):ACallX Tryz.prog 127 [] [ofT (A0k l)] (A0k l):=by
 have hrn:A0l l≠[]:=by simpa [A0l] using hne
 have hrl:(A0l l).length=l.length:=A0e l;have hrk: ∀r,r∈A0l l->r.length=1:=fun r hr=>A1c hr;have hrf: ∀r,r∈A0l l->A1b r=true:=fun r hr=>by obtain ⟨x,_,rfl⟩:=QY.1 hr; rfl
 unfold A0k;generalize A0l l=rows at*;refine ACallX.of_body Tryz.func127 rfl (by kernel_rfl) (by simp [isMap]) ?_;simp only [entry,Tryz.ntmps127,ofT,A3v,A0v,XY,ZQ,List.length_cons,List.length_nil,Nat.reduceAdd,Nat.reduceSub,List.replicate_succ,List.replicate_zero,List.cons_append,List.nil_append];refine FWp.of_awp ?_;refine zMc Qv5 (zc @hrl Qv5) Qv5 Qv5 (zc hrn (zc @hrk Qv5)) (ed fun hp hpc=>?_);simp [C2f,B6Y,Blk.cells,ty,Tryz.results127,A0o,A0p,toT,A6p,A0a,Tree.flat];exact hrf
def B7L:ACall Tryz.prog 127 [A0k []] (A0k []):=by
 refine ACall.of_body Tryz.func127 rfl (by kernel_rfl) ?_;simp only [entry,Tryz.ntmps127,A0k,A0l];refine zU ?_;refine zM (zc Qv5 (prt 1 1)) Qv5 Qv5 Qv5 Qv5 (ed fun hp hpc=>?_);simp only [Zy,Yq];refine AReg.nilq (e:=3) false rfl rfl rfl (by simp only [ty]) rfl rfl (fun b=>AReg.rest (fun K hK=> ?_));cases b
 ·
  refine zMc trivial trivial trivial trivial trivial (ed fun hp hpc=>?_);simp [A0s,A0r,Blk.cells,ty,Tryz.results127,A0o,A0p,toT,A0d,A0b,A0c,A0a,A0k,A0l]
 ·
  refine zM trivial trivial trivial trivial trivial (ed fun hp hpc=>?_);simp [A0s,A0r,Blk.cells,ty,Tryz.results127,A0o,A0p,toT,A0d,A0b,A0c,A0a,A0k,A0l]
def C8p:A1O Tryz.prog 158=some false:=by kernel_rfl
def C8q:A0u Tryz.prog 158=some 1:=by kernel_rfl
def C8r:A01 Tryz.prog 158=some .nilFunc:=by kernel_rfl
def C8s:A0x Tryz.prog 158=some 8:=by kernel_rfl
def C8t:A1O Tryz.prog 159=some false:=by kernel_rfl
def C8u:A0u Tryz.prog 159=some 1:=by kernel_rfl
def C8v:A01 Tryz.prog 159=some .nilFunc:=by kernel_rfl
def C8w:A0x Tryz.prog 159=some 8:=by kernel_rfl
attribute [go_sem] C8p C8q C8r C8s C8t C8u C8v C8w
def growCaps (n:Nat) (L:List (Int×Int)):List ACap:=[.tree (.rptr [.int .i64 (n:Int)]),.ptr 1 0,.tree (.rptr [.slice (A0U L)]),.ptr 2 0]
def A6e (T:List Nat):TVal:=A0k (T.map fun x:Nat=>(x:Int))
def nC (t:List Nat):List ACell:=t.map fun x:Nat=>ACell.int .i64 (x:Int)
def B32 (t:List Nat):(nC t).length=t.length:=by simp [nC]
def B1Z (t:List Nat) (e:Nat):nC t++[.int .i64 (e:Int)]=nC (t++[e]):=by simp [nC]
structure GH (l n:Nat) (L:List (Int×Int)) (H1:List Blk):Prop where
 yld: ∀X:List Blk,(H1++X)[0]? =some (.box [.yld l])
 fn: ∀X:List Blk,(H1++X)[1]? =some (.box [.fn 126 (growCaps n L)])
 ok: ∀blk,blk∈H1->okBlk blk
 inn: ∀blk,blk∈H1->blkIn (H1.length+1) blk
 len:2≤H1.length
def GV (t:List Nat) (j cap:Nat) (H1:List Blk):Prop:=(cap=0∧t=[])∨(2≤j∧H1[j]? =some (.box (nC t++List.replicate (cap-t.length) .any)))
def B1a {n:Nat} {L:List (Int×Int)} {fuel:Nat} {t:List Nat} {e:Nat} (h:t.length+1=n):A18 n L fuel t e=[t]:=by
 cases fuel<;>(unfold A18; rw [if_pos h])
def GR (J:Nat->Sig->World->Prop) (Jx:Sig->World->Prop) (k:Nat) (H1:List Blk) (H':List Blk) (r:AVal):Prop:=
 ∃X,(r= .c (.bool true)∧H'= .ghost (J k)::(H1++X))∨(r= .c (.bool false)∧H'= .ghost Jx::(H1++X))
def okF {H1:List Blk} {F:List Nat} (h: ∀blk,blk∈H1->okBlk blk) (hf:F.length=12): ∀blk,blk∈H1++[.box (fC F)]->okBlk blk:=fun blk hb=>by
 rcases XZ.1 hb with hb | hb
 ·exact h blk hb
 ·rw [XQ] at hb; subst hb
  match F,hf with
  | x::F,_=>exact trivial
def A6O {m m':Nat} (hm:m≤m') {c:ACap} (h:B1w m c):B1w m' c:=by
 cases c with
 | tree t=>trivial
 | _=>exact ZW h hm
def C0X {m m':Nat} (hm:m≤m') {c:ACell} (h:A6o m c):A6o m' c:=by
 cases c with
 | slice rows tok=>cases tok with
  | chain i=>exact ZW h hm
  | tail i p=>exact ZW h hm
  | _=>trivial
 | bfn f caps=>exact fun x hx=>A6O hm (h x hx)
 | fn f caps=>exact fun x hx=>A6O hm (h x hx)
 | rows rs tok=>exact ⟨fun r hr x hx=>A6O hm (h.1 r hr x hx),by
   cases tok with
   | chain i=>exact ZW h.2 hm
   | tail i p=>exact ZW h.2 hm
   | _=>trivial⟩
 | rptrC cs=>exact fun x hx=>A6O hm (h x hx)
 | ptr _ _=>exact ZW h hm
 | ref _ _ _ _ _=>exact ZW h hm
 | vec _ _ _=>exact ZW h hm
 | map _=>exact ZW h hm
 | iter _=>exact ZW h hm
 | _=>trivial
def B6s {m m':Nat} (hm:m≤m') {b:Blk} (h:blkIn m b):blkIn m' b:=by
 cases b with
 | box cs=>exact fun c hc=>C0X hm (h c hc)
 | roC cs=>exact fun c hc=>A6O hm (h c hc)
 | iter i _ _=>exact ZW h hm
 | _=>trivial
@[simp] theorem C8b (B:Blk) (H1 X:List Blk):(H1++B::X).take (H1.length+1)=H1++[B]:=by
 rw [List.take_length_add_append]; rfl
def inF {l n:Nat} {L:List (Int×Int)} {H1:List Blk} (hG:GH l n L H1) (F:List Nat):A1N (H1.length+2) (H1++[.box (fC F)]):=fun b hb=>by
 rcases XZ.1 hb with hb | hb
 ·exact B6s (by omega) (hG.inn b hb)
 ·rw [XQ] at hb; subst hb; exact A1s
variable {L:List (Int×Int)}
def GH.app {l n:Nat} {H1 X:List Blk} (hG:GH l n L H1) (h1: ∀b,b∈X->okBlk b) (h2: ∀b,b∈X-> ∀m,blkIn m b):GH l n L (H1++X) where
 yld Y:=by rw [Zv]; exact hG.yld _
 fn Y:=by rw [Zv]; exact hG.fn _
 ok b hb:=by
  rcases XZ.1 hb with hb | hb
  ·exact hG.ok b hb
  ·exact h1 b hb
 inn b hb:=by
  rcases XZ.1 hb with hb | hb
  ·exact B6s (by rw [Xv]; omega) (hG.inn b hb)
  ·exact h2 b hb _
 len:=by have:=hG.len; rw [Xv]; omega
def GH.put {l n:Nat} {H1:List Blk} (hG:GH l n L H1) {j:Nat} (hj2:2≤j) {B:Blk} (h1:okBlk B) (h2: ∀m,blkIn m B):GH l n L (H1.set j B) where
 yld Y:=by
  have:=hG.yld Y;have hl:=hG.len;rw [Qw (by omega)] at this;rw [Qw (by rw [Yz]; omega),Qy (by omega)]; exact this
 fn Y:=by
  have:=hG.fn Y;have hl:=hG.len;rw [Qw (by omega)] at this;rw [Qw (by rw [Yz]; omega),Qy (by omega)]; exact this
 ok b hb:=by
  rcases List.mem_or_eq_of_mem_set hb with hb | rfl
  ·exact hG.ok b hb
  ·exact h1
 inn b hb:=by
  rcases List.mem_or_eq_of_mem_set hb with hb | rfl
  ·rw [Yz]; exact hG.inn b hb
  ·exact h2 _
 len:=by rw [Yz]; exact hG.len
def C5F {m:Nat} (t:List Nat) (k:Nat):blkIn m (.box (nC t++List.replicate k .any)):=fun c hc=>by
 rcases XZ.1 hc with hc | hc
 ·obtain ⟨x,_,rfl⟩:=QY.1 hc; exact trivial
 ·rw [(Wq.1 hc).2]; exact trivial
def C0Y {t:List Nat} (k:Nat) (h:t≠[]):okBlk (.box (nC t++List.replicate k .any)):=by
 cases t with
 | nil=>exact absurd rfl h
 | cons x t=>exact trivial
def C0Z {t:List Nat} {a cap:Nat} (h:t.length<cap):(nC (t++[a])++List.replicate (cap-(t.length+1)) ACell.any).set t.length .any=nC t++List.replicate (cap-t.length) .any:=by
 rw [<-B1Z,Zv,Vq _ _ (by rw [B32]; exact Qk _),B32,Jv];congr 1;obtain ⟨d,hd⟩: ∃d,cap-t.length=d+1:=⟨cap-t.length-1,by omega⟩;rw [show cap-(t.length+1)=d by omega,hd,List.replicate_succ]; rfl
def B6t {H1 X:List Blk} {G B C:Blk} {j:Nat} (hj:H1[j]? =some C):(G::(H1.set j B++X)).set (j+1) C=G::(H1++X):=by
 have hl:=(Qx.1 hj).1;rw [List.set_cons_succ,Qx6 _ _ (by rw [Yz]; exact hl),List.set_set];congr 2;apply Zq;intro i;by_cases e:j=i
 ·subst e; rw [QX hl,hj]
 ·rw [Qy e]
def B7M {n:Nat} {t:List Nat} {a:Nat} (ha:a<L.length) (h: ¬t.length+1=n):A18 n L (L.length-a) t a=(open Classical in if acyc (pkN L (t++[a])) then A18 n L (L.length-(a+1)) (t++[a]) (a+1) else [])++A18 n L (L.length-(a+1)) t (a+1):=by
 rw [show L.length-a=(L.length-(a+1))+1 by omega,A18,if_neg h]
def C5G (t:List Nat) (X:List ACell):(nC t++X).take t.length=nC t:=by
 rw [<-B32 t,List.take_left]
def B5f (ts:List Tree):(ts.map fun t=>[t]).flatten=ts:=by
 induction ts with
 | nil=>rfl
 | cons t ts ih=>simp only [XY,List.flatten_cons,List.singleton_append,ih]
def B7N (ts:List Tree):chunks 1 ts.length ts=ts.map fun t=>[t]:=by
 have h:=Go.Sp.chunks_flatten (k:=1) (rows:=ts.map fun t=>[t]) (fun r hr=>by obtain ⟨t,_,rfl⟩:=QY.1 hr; rfl);rw [XW,B5f] at h;exact h
def C30 (t:List Nat):(nC t).mapM A0a=some (t.map fun x:Nat=>Tree.int .i64 (x:Int)):=by
 induction t with
 | nil=>rfl
 | cons x t ih=>unfold nC at ih ⊢; simp [JY,A0a,ih]
def C5H {H:List Blk} {j:Nat} {t:List Nat} {X:List ACell} (hj:H[j]? =some (.box (nC t++X))):A0b H (.ref j 1 0 t.length t.length)=some (.slice (A0l (t.map fun x:Nat=>(x:Int)))):=by
 simp only [A0b,hj,Blk.cells,Option.bind_some,Qk,true_and,Yq,Wj,XX,C5G,C30,Option.map_some];rw [if_pos (by simp [B32])];have h:=B7N (t.map fun x:Nat=>Tree.int .i64 (x:Int));rw [XW] at h;rw [h];simp [A0l]
def jnB (es:List E) (R:List Bool) (v:Nat):Int:=joinL (fun u=>R.getD u.toNat false) (lnkL es v)
def C6k (es:List E) (d:List Int) (R:List Bool) (v:Nat):Bool:= !R.getD v false&&decide (d.getD v 0<jnB es R v)
def A2S (es:List E) (d:List Int) (R:List Bool):Nat->List Bool×Bool
 | 0=>(R,false)
 | k+1=>if C6k es d (A2S es d R k).1 k=true then ((A2S es d R k).1.set k true,true) else A2S es d R k
def A7C (es:List E) (d:List Int) (R:List Bool) (k:Nat):A2S es d R (k+1)=if C6k es d (A2S es d R k).1 k=true then ((A2S es d R k).1.set k true,true) else A2S es d R k:=rfl
structure Burn (es:List E) (d:List Int) (q:Nat) (R:List Bool) (L:List Nat):Prop where
 nd:L.Nodup
 mem: ∀v,R.getD v false=true↔v∈L
 hd:L[0]? =some q
 ord: ∀i v,1≤i->L[i]? =some v->d.getD v 0<joinL (fun u=>decide (u.toNat∈L.take i)) (lnkL es v)
def C7U (es:List E) (d:List Int) (q:Nat) (R:List Bool):Prop:= ∃L,Burn es d q R L
def A5j (es:List E) (d:List Int) (R:List Bool): ∀k,(A2S es d R k).1.length=R.length
 | 0=>rfl
 | k+1=>by
  rw [A7C];split
  ·simp only [Yz]; exact A5j es d R k
  ·exact A5j es d R k
def C5I (R:List Bool):Nat:=R.countP fun b=> !b
def B6u: ∀{R:List Bool} {k:Nat},R[k]? =some false->C5I (R.set k true)+1=C5I R
 | [],k,h=>by simp at h
 | b::R,0,h=>by simp at h; subst h; simp [C5I]
 | b::R,k+1,h=>by
  have:=B6u (R:=R) (k:=k) (by simpa using h);unfold C5I at this ⊢;simp only [List.set_cons_succ,Qx2];omega
def B33 (es:List E) (d:List Int) (R:List Bool): ∀k,k≤R.length->C5I (A2S es d R k).1+(if (A2S es d R k).2=true then 1 else 0)≤C5I R∧((A2S es d R k).2=false->(A2S es d R k).1=R∧ ∀v,v<k->C6k es d R v=false)
 | 0,_=>⟨by simp [A2S],fun _=>⟨rfl,fun v hv=>by omega⟩⟩
 | k+1,hk=>by
  obtain ⟨h1,h2⟩:=B33 es d R k (by omega);rw [A7C];split
  ·rename_i hm;refine ⟨?_,fun h=>by cases h⟩;have hm2:=hm;unfold C6k at hm2;simp only [XV,Ww,decide_eq_true_eq] at hm2;have:=B6u (R:=(A2S es d R k).1) (k:=k) (by rw [A6K (by rw [A5j]; omega),hm2.1]);simp only [if_true];split at h1<;>omega
  ·rename_i hm;rw [Qx3] at hm;refine ⟨h1,fun h=> ?_⟩;obtain ⟨e,h3⟩:=h2 h;refine ⟨e,fun v hv=> ?_⟩;by_cases hvk:v=k
   ·subst hvk; rw [e] at hm; exact hm
   ·exact h3 v (by omega)
def A6P (R:List Bool) (k:Nat):Bool:=(List.range k).any fun v=> !R.getD v false
def B2o (R:List Bool) (n k:Nat):List Bool:=(List.range n).map fun v=>decide (v<k)&& !R.getD v false
def A8z (R:List Bool) (n k:Nat):(B2o R n k).length=n:=by simp [B2o]
def B6v (R:List Bool) (n k i:Nat):(B2o R n k)[i]? =if i<n then some (decide (i<k)&& !R.getD i false) else none:=by
 unfold B2o;rw [QQ];by_cases h:i<n
 ·rw [if_pos h,Yv h]; rfl
 ·rw [if_neg h,Xq (by simpa using h)]; rfl
def C31 (R:List Bool) {n k:Nat} (hk:k<n):(B2o R n k).set k (!R.getD k false)=B2o R n (k+1):=by
 apply Zq;intro i;rw [Qq0,A8z,B6v,B6v];by_cases e:k=i
 ·subst e;rw [if_pos rfl,if_pos hk,if_pos hk,decide_eq_true (show k<k+1 by omega)]; rfl
 ·rw [if_neg e];by_cases h:i<n
  ·rw [if_pos h,if_pos h,decide_eq_decide.2 (show i<k↔i<k+1 by omega)]
  ·rw [if_neg h,if_neg h]
def B7O (R:List Bool) (k:Nat):A6P R (k+1)=(A6P R k|| !R.getD k false):=by
 unfold A6P; rw [WQ,List.any_append]; simp
def C32 (R:List Bool):(bC R).mapM A0a=some (R.map Tree.bool):=by
 induction R with
 | nil=>rfl
 | cons b R ih=>
  unfold bC at ih ⊢;rw [XY,JY,ih]; rfl
def C5J {R:List Bool} {r:List Tree} (h:r∈A46 R):r.length=1:=by
 unfold A46 at h;obtain ⟨b,_,rfl⟩:=QY.1 h; rfl
def C1a (R:List Bool) (i:Nat) (r:List Tree) (m:Nat) (x:Tree) (h1:(A46 R)[i]? =some r) (h2:r[m]? =some x):(R.map Tree.bool)[i*1+m]? =some x:=by
 unfold A46 at h1;rw [QQ] at h1;obtain ⟨b,hb,rfl⟩:=Option.map_eq_some_iff.1 h1;cases m with
 | zero=>simp at h2; subst h2; rw [Wj,Nat.add_zero,QQ,hb]; rfl
 | succ m=>simp at h2
inductive BEnd (es:List E) (d:List Int) (n:Nat):List Bool->List Bool->Prop where
 | stop {R:List Bool}:(A2S es d R n).2=false->BEnd es d n R R
 | go {R B:List Bool}:(A2S es d R n).2=true->BEnd es d n (A2S es d R n).1 B->BEnd es d n R B
def A9F (n q:Nat):List Bool:=(List.replicate n false).set q true
def B5g (n q:Nat) (es:List E) (d s:List Int) (h1:1≤n) (h12:n≤12) (hq:q<n) (hd:d.length=n) (hs:s.length=n) (hl:es.length≤40) (hm: ∀e,e∈es->(0≤e.a∧e.a<n)∧(0≤e.b∧e.b<n)∧0≤e.m∧e.m≤50) (B:List Bool) (hB:BEnd es d n (A9F n q) B) (hBl:B.length=n):
  ∃X,ACallH Tryz.prog 163 [.box [.int .i64 (n:Int),.slice (A0f es) .none],.ro [.int .i64 (n:Int),.slice (A0f es)],.box (iC d),.box (iC s),.roC [.tree (.int .i64 (n:Int)),.tree (.slice (A0f es)),.tree (.int .i64 (q:Int)),.ref 2 1 0 n n,.ref 3 1 0 n n,.tree (.int .i64 0)]] [.c (.ptr 4 0)] ([.box [.int .i64 (n:Int),.slice (A0f es) .none],.ro [.int .i64 (n:Int),.slice (A0f es)],.box (iC d),.box (iC s),.roC [.tree (.int .i64 (n:Int)),.tree (.slice (A0f es)),.tree (.int .i64 (q:Int)),.ref 2 1 0 n n,.ref 3 1 0 n n,.tree (.int .i64 0)]]++X) (.tup [.c (.slice (A46 (B2o B n n)) .none),.c (.bool (A6P B n))]):=by
 refine ⟨[.box (bC B),.box [.ref 5 1 0 n n],.ro ((B2o B n n).map Tree.bool)],?_⟩;have hqI:(q:Int)<(n:Int):=by omega
 have hdn:d≠[]:=by intro e; rw [e] at hd; simp at hd; omega
 have hsn:s≠[]:=by intro e; rw [e] at hs; simp at hs; omega
 have hli:(A9F n q).length=n:=by simp [A9F]
 have hkb: ∀(v:Nat) u k,(u,k)∈lnkL es v-> ∃w:Nat,u=w∧w<n:=fun v u k hx=>by
  obtain ⟨e,he,e1,_,e2⟩:=A74 hx;have:=hm e he;simp only at e2;exact ⟨u.toNat,by omega,by omega⟩
 have hJ: ∀(R:List Bool) (v:Nat),R.length=n->v<n->ACallH Tryz.prog 161 [.box [.int .i64 (n:Int),.slice (A0f es) .none],.ro [.int .i64 (n:Int),.slice (A0f es)],.box (iC d),.box (iC s),.roC [.tree (.int .i64 (n:Int)),.tree (.slice (A0f es)),.tree (.int .i64 (q:Int)),.ref 2 1 0 n n,.ref 3 1 0 n n,.tree (.int .i64 0)],.box (bC R),.box [.ref 5 1 0 n n]] [.c (.ptr 4 0),.c (.int .i64 (v:Int)),.c (.fn 186 [.ptr 6 0])] [.box [.int .i64 (n:Int),.slice (A0f es) .none],.ro [.int .i64 (n:Int),.slice (A0f es)],.box (iC d),.box (iC s),.roC [.tree (.int .i64 (n:Int)),.tree (.slice (A0f es)),.tree (.int .i64 (q:Int)),.ref 2 1 0 n n,.ref 3 1 0 n n,.tree (.int .i64 0)],.box (bC R),.box [.ref 5 1 0 n n]] (.c (.int .i64 (jnB es R v))):=fun R v hR hv=>
  C0g n q es d s R hdn hsn (by intro e; rw [e] at hR; simp at hR; omega) (by omega) (fun e he=>by have:=hm e he; omega) v (by omega) _ _ fun X u k hx=>by
   obtain ⟨w,rfl,hw⟩:=hkb v u k hx;exact C6V n R hR rfl rfl w hw
 have hr0:=A68 (List.replicate n false) q true;have hrl:(List.replicate n false:List Bool).length=n:=by simp
 have hr0':(bC (List.replicate n false)).set q (.bool true)=bC (A9F n q):=hr0;simp only [List.cons_append,List.nil_append];refine ACallH.of_body Tryz.func163 rfl (by kernel_rfl) ?_;simp only [entry,Tryz.ntmps163,List.length_cons,List.length_nil,Nat.reduceAdd,Nat.reduceSub,List.replicate_succ,List.replicate_zero,List.cons_append,List.nil_append];refine zR (zc @hqI (zc @A3X (zc @hr0' (zc @hrl (zc @A1Z (zc @XX Qv5)))))) Qv5 Qv5 ?_;refine AWp.loopS (α:=(List Bool×Bool)) 85 (fun w=>[(0,.c (.ptr 4 0)),(4,.c (.ptr 6 0)),(5,.c (.fn 186 [.ptr 6 0])),(6,.c (.bool w.2))]) (fun w=>[.box [.int .i64 (n:Int),.slice (A0f es) .none],.ro [.int .i64 (n:Int),.slice (A0f es)],.box (iC d),.box (iC s),.roC [.tree (.int .i64 (n:Int)),.tree (.slice (A0f es)),.tree (.int .i64 (q:Int)),.ref 2 1 0 n n,.ref 3 1 0 n n,.tree (.int .i64 0)],.box (bC w.1),.box [.ref 5 1 0 n n]]) (fun w=>w.1.length=n∧(w.2=true->BEnd es d n w.1 B)∧(w.2=false->w.1=B)) (fun w=>2*C5I w.1+(if w.2=true then 1 else 0)) ((A9F n q,true)) (hk:=Weak.headL 7 85 [0,4,5,6] (zWs (zc @A0V (zc @A0O @A0L)))) (h0:=?_) (round:=fun w hI=>?_)
 ·exact ⟨hli,fun _=>hB,fun h=>by cases h⟩
 ·obtain ⟨R,ag⟩:=w;obtain ⟨hRl,hI1,hI2⟩:=hI;simp only at hRl hI1 hI2 ⊢;cases ag with
  | true=>
   have hE:=hI1 rfl;clear hI1 hI2;have hcnt:=B33 es d R n (by omega);refine zR Qv5 Qv5 Qv5 ?_;refine AWp.loopS (α:=Nat) 85 (fun k=>[(0,.c (.ptr 4 0)),(4,.c (.ptr 6 0)),(5,.c (.fn 186 [.ptr 6 0])),(6,.c (.bool (A2S es d R k).2)),(29,.c (.int .i64 (n:Int))),(30,.c (.int .i64 (k:Int)))]) (fun k=>[.box [.int .i64 (n:Int),.slice (A0f es) .none],.ro [.int .i64 (n:Int),.slice (A0f es)],.box (iC d),.box (iC s),.roC [.tree (.int .i64 (n:Int)),.tree (.slice (A0f es)),.tree (.int .i64 (q:Int)),.ref 2 1 0 n n,.ref 3 1 0 n n,.tree (.int .i64 0)],.box (bC (A2S es d R k).1),.box [.ref 5 1 0 n n]]) (fun k=>k≤n) (fun k=>n-k) (0) (hk:=Weak.headL 7 85 [0,4,5,6,29,30] (zWs (zc @A0V (zc @A0O @A0L)))) (h0:=?_) (round:=fun k hI=>?_)
   ·exact Xj _
   ·have hk:k≤n:=hI;clear hI;by_cases hkl:k<n
    ·have hkI:(k:Int)<(n:Int):=by omega
     have hps:=A7C es d R k;have hpl:=A5j es d R k;rw [hRl] at hpl;have hJk:=hJ (A2S es d R k).1 k hpl hkl;generalize A2S es d R k=p at*;generalize hp1:A2S es d R (k+1)=p1 at*;obtain ⟨Rk,ak⟩:=p;simp only at hpl hJk hps ⊢;have hg:=B0E (A6K (R:=Rk) (i:=k) (by omega));have hds:=A5K (A1t (d:=d) (i:=k) (by omega));have hst:=A68 Rk k true;unfold C6k at hps;generalize d.getD k 0=dv at*;generalize jnB es Rk k=jv at*;cases hbk:Rk.getD k false with
     | true=>
      rw [hbk] at hps hg;simp only [Qq4,VW] at hps;rw [if_neg (by simp)] at hps;refine zR (zc @hkI (zc @hg (zc @A1Z (zc @hpl (zc @XX Qv5))))) Qv5 Qv5 ?_;refine ⟨k+1,Weak.headF 7 85 [0,4,5,6,29,30] (zc @hp1 (zc @hps Qv5)) (zWs (zc @A0V (zc @A0O @A0L))),?_,?_⟩
      ·exact hkl
      ·omega
     | false=>
      rw [hbk] at hps hg;simp only [Qx8,VQ,decide_eq_true_eq] at hps;by_cases hlt:dv<jv
      ·rw [if_pos hlt] at hps;refine zJ Qv5 (zc @hkI (zc @hg (zc @hds (zc @hlt (zc @hst (zc @A1Z (zc @A12 (zc @hd (zc @hpl (zc @XX Qv5)))))))))) Qv5 (zc hJk Qv5) Qv5 ?_;refine ⟨k+1,Weak.headF 7 85 [0,4,5,6,29,30] (zc @hp1 (zc @hps Qv5)) (zWs (zc @A0V (zc @A0O @A0L))),?_,?_⟩
       ·exact hkl
       ·omega
      ·rw [if_neg hlt] at hps;refine zJ Qv5 (zc @hkI (zc @hg (zc @hds (zc @hlt (zc @A1Z (zc @A12 (zc @hd (zc @hpl (zc @XX Qv5))))))))) Qv5 (zc hJk Qv5) Qv5 ?_;refine ⟨k+1,Weak.headF 7 85 [0,4,5,6,29,30] (zc @hp1 (zc @hps Qv5)) (zWs (zc @A0V (zc @A0O @A0L))),?_,?_⟩
       ·exact hkl
       ·omega
    ·have hnl: ¬(k:Int)<(n:Int):=by omega
     have ek:k=n:=by omega
     have hpl:=A5j es d R n;rw [ek] at*;refine zR (zc @hnl Qv5) Qv5 Qv5 ?_;refine ⟨A2S es d R n,Weak.headN 7 85 [0,4,5,6] (zWs (zc @A0V (zc @A0O @A0L))),?_,?_⟩
     ·refine ⟨hpl.trans hRl,fun h=> ?_,fun h=> ?_⟩
      ·cases hE with
       | stop hp=>rw [hp] at h; cases h
       | go hp hE'=>exact hE'
      ·cases hE with
       | stop hp=>exact (hcnt.2 hp).1
       | go hp hE'=>rw [hp] at h; cases h
     ·have h1:=hcnt.1;cases hp2:(A2S es d R n).2<;>simp [hp2] at h1 ⊢<;>omega
  | false=>
   have hRB:=hI2 rfl;subst hRB;clear hI1 hI2 hB;have hn0:B2o R n 0=List.replicate n false:=by
    apply VJ
    ·simp [B2o]
    ·intro i h1 h2; simp [B2o]
   have hs0:A6P R 0=false:=rfl;refine zR (zc @A3X (zc @A1Z (zc @hRl Qv5))) Qv5 Qv5 ?_;rw [<-hn0];refine AWp.loopS (α:=Nat) 85 (fun k=>[(0,.c (.ptr 4 0)),(4,.c (.ptr 6 0)),(8,.c (.ref 7 1 0 n n)),(9,.c (.bool (A6P R k))),(63,.c (.int .i64 (n:Int))),(64,.c (.int .i64 (k:Int)))]) (fun k=>[.box [.int .i64 (n:Int),.slice (A0f es) .none],.ro [.int .i64 (n:Int),.slice (A0f es)],.box (iC d),.box (iC s),.roC [.tree (.int .i64 (n:Int)),.tree (.slice (A0f es)),.tree (.int .i64 (q:Int)),.ref 2 1 0 n n,.ref 3 1 0 n n,.tree (.int .i64 0)],.box (bC R),.box [.ref 5 1 0 n n],.box (bC (B2o R n k))]) (fun k=>k≤n) (fun k=>n-k) (0) (hk:=Weak.headL 8 85 [0,4,8,9,63,64] (zWs (zc @A0V (zc @A0O @A0L)))) (h0:=?_) (round:=fun k hI=>?_)
   ·exact Xj _
   ·have hk:k≤n:=hI;clear hI;by_cases hkl:k<n
    ·have hkI:(k:Int)<(n:Int):=by omega
     have hg:=B0E (A6K (R:=R) (i:=k) (by omega));have hns:=C31 R hkl;have hnl:=A8z R n k;have hnl1:=A8z R n (k+1);have hso:=B7O R k;generalize R.getD k false=b at*;have hbs:=A68 (B2o R n k) k (!b);rw [hns] at hbs;have hg2:(bC (B2o R n (k+1)))[k]? =some (.bool (!b)):=by rw [<-hbs]; exact QX (by rw [A1Z,hnl]; exact hkl)
     generalize hn1:B2o R n (k+1)=N1 at*;generalize B2o R n k=N0 at*;generalize hso1:A6P R (k+1)=S1 at*;cases hS0:A6P R k with
     | true=>
      rw [hS0,Bool.true_or] at hso;refine zR (zc @hkI (zc @hg (zc @hg2 (zc @hbs (zc @A1Z (zc @hRl (zc @hnl (zc @hnl1 (zc @XX Qv5))))))))) Qv5 Qv5 ?_;refine ⟨k+1,Weak.headF 8 85 [0,4,8,9,63,64] (zc @hn1 (zc @hso1 (zc @hso Qv5))) (zWs (zc @A0V (zc @A0O @A0L))),?_,?_⟩
      ·exact hkl
      ·omega
     | false=>
      rw [hS0,Qq7] at hso;refine zR (zc @hkI (zc @hg (zc @hg2 (zc @hbs (zc @A1Z (zc @hRl (zc @hnl (zc @hnl1 (zc @XX Qv5))))))))) Qv5 Qv5 ?_;refine ⟨k+1,Weak.headF 8 85 [0,4,8,9,63,64] (zc @hn1 (zc @hso1 (zc @hso Qv5))) (zWs (zc @A0V (zc @A0O @A0L))),?_,?_⟩
      ·exact hkl
      ·omega
    ·have hnl: ¬(k:Int)<(n:Int):=by omega
     have ek:k=n:=by omega
     have hln:=A8z R n n;rw [ek];rw [ek] at hnl;refine zJ (stop 21) (zc @hnl Qv5) Qv5 Qv5 Qv5 ?_;refine AWp.freezeR 8 7 1 n n rfl rfl (C32 _) (A46 (B2o R n n)) (by rw [A5a,hln]) (Qk _) (fun r hr=>C5J hr) (C1a _) ?_;refine zR Qv5 Qv5 Qv5 ?_;simp [A4Q,A2f,A0o,A2e,Tryz.results163]
abbrev BS3:=List Int×List Nat×Nat
def stepD (v:Nat) (s:BS3) (x:Int×Int):BS3:=if s.1.getD x.1.toNat 0<0 then (s.1.set x.1.toNat (s.1.getD v 0+1),s.2.1++[x.1.toNat],s.2.2+1) else s
def B8o (es:List E) (v:Nat) (s:BS3):BS3:=(lnkL es v).foldl (stepD v) s
def cntNeg (o:List Int):Nat:=o.countP fun x=>decide (x<0)
def A59: ∀{o:List Int} {u:Nat} {x y:Int},o[u]? =some y->y<0->0≤x->cntNeg (o.set u x)+1=cntNeg o
 | [],u,x,y,h,_,_=>by simp at h
 | a::o,0,x,y,h,h1,h2=>by
  simp at h; subst h;unfold cntNeg;simp only [List.set_cons_zero,Qx2];rw [if_pos (decide_eq_true h1),if_neg (by simpa using h2)]
 | a::o,u+1,x,y,h,h1,h2=>by
  have:=A59 (o:=o) (u:=u) (x:=x) (y:=y) (by simpa using h) h1 h2;unfold cntNeg at this ⊢;simp only [List.set_cons_succ,Qx2];omega
def A5k (o:List Int) (k:Nat) (x:Int) (v:Nat) (hk:k<o.length):(o.set k x).getD v 0=if v=k then x else o.getD v 0:=by
 rw [Qz,Qq0];by_cases e:k=v
 ·subst e; rw [if_pos rfl,if_pos hk,if_pos rfl]; rfl
 ·rw [if_neg e,if_neg (fun h=>e h.symm),Qz]
def C5K {es:List E} {v:Int} {x:Int×Int} (h:x∈lnkL es v):(v,x.2)∈lnkL es x.1:=by
 obtain ⟨e,he,h1,h2,h3⟩:=A74 h;unfold lnkL;rw [List.mem_filterMap];refine ⟨e,he,?_⟩;unfold C25;rcases h3 with ⟨h3,h4⟩ | ⟨h3,h4⟩
 ·rw [if_pos ⟨h2,.inr h4.symm⟩,h1,h4,<-h3]; congr 2; omega
 ·rw [if_pos ⟨h2,.inl h4.symm⟩,h1,h4,<-h3]; congr 2; omega
structure BFq (es:List E) (n q:Nat) (o:List Int) (Q:List Nat):Prop where
 len:o.length=n
 q0:o.getD q 0=0
 bnd: ∀x,x<n-> -1≤o.getD x 0∧o.getD x 0+cntNeg o≤n-1
 qm: ∀a,a∈Q->a<n∧0≤o.getD a 0
 srt:Q.Pairwise fun a b=>o.getD a 0≤o.getD b 0
 gap: ∀a b,a∈Q->b∈Q->o.getD b 0≤o.getD a 0+1
 proc: ∀x,x<n->0≤o.getD x 0->x∉Q->(∀a,a∈Q->o.getD x 0≤o.getD a 0)∧ ∀y,y∈lnkL es x->0≤o.getD y.1.toNat 0∧o.getD y.1.toNat 0≤o.getD x 0+1
 par: ∀x,x<n->x≠q->0≤o.getD x 0-> ∃y,y∈lnkL es x∧0≤o.getD y.1.toNat 0∧o.getD y.1.toNat 0+1=o.getD x 0
structure PBq (es:List E) (n q v:Nat) (l:List (Int×Int)) (o:List Int) (Q:List Nat):Prop where
 len:o.length=n
 q0:o.getD q 0=0
 bnd: ∀x,x<n-> -1≤o.getD x 0∧o.getD x 0+cntNeg o≤n-1
 vv:v<n∧0≤o.getD v 0
 qm: ∀a,a∈Q->a<n∧o.getD v 0≤o.getD a 0∧o.getD a 0≤o.getD v 0+1
 srt:Q.Pairwise fun a b=>o.getD a 0≤o.getD b 0
 proc: ∀x,x<n->x≠v->0≤o.getD x 0->x∉Q->o.getD x 0≤o.getD v 0∧ ∀y,y∈lnkL es x->0≤o.getD y.1.toNat 0∧o.getD y.1.toNat 0≤o.getD x 0+1
 par: ∀x,x<n->x≠q->0≤o.getD x 0-> ∃y,y∈lnkL es x∧0≤o.getD y.1.toNat 0∧o.getD y.1.toNat 0+1=o.getD x 0
 dn: ∀y,y∈l->0≤o.getD y.1.toNat 0∧o.getD y.1.toNat 0≤o.getD v 0+1
section
variable {es:List E} {n q v:Nat}
def BFq.pop {o:List Int} {Q:List Nat} (h:BFq es n q o (v::Q)):PBq es n q v [] o Q:=by
 have hv:=h.qm v (by simp);have hs:=Jq.1 h.srt;refine ⟨h.len,h.q0,h.bnd,hv,fun a ha=>⟨(h.qm a (by simp [ha])).1,hs.1 a ha,h.gap v a (by simp) (by simp [ha])⟩,hs.2,fun x hx hxv h0 hxQ=> ?_,h.par,by simp⟩;have:=h.proc x hx h0 (by simp [hxv,hxQ]);exact ⟨this.1 v (by simp),this.2⟩
def PBq.step {l:List (Int×Int)} {s:BS3} (h:PBq es n q v l s.1 s.2.1) {x:Int×Int} (hx:x∈lnkL es v) (hxn:0≤x.1∧x.1<n):PBq es n q v (l++[x]) (stepD v s x).1 (stepD v s x).2.1:=by
 obtain ⟨o,Q,p⟩:=s;obtain ⟨u,k⟩:=x;simp only at h hxn;obtain ⟨w,rfl⟩:=Zx hxn.1;have hw:w<n:=by omega
 obtain ⟨e,he,_,hne,hab⟩:=A74 hx;have hwv:w≠v:=by rintro rfl; simp only at hab; omega
 unfold stepD;simp only [Int.toNat_natCast];split
 ·rename_i hneg;have hg:=fun y=>A5k o w (o.getD v 0+1) y (by rw [h.len]; exact hw);have hv0:=h.vv.2;have hgv:(o.set w (o.getD v 0+1)).getD v 0=o.getD v 0:=by rw [hg,if_neg (Ne.symm hwv)]
  have hgo: ∀y,0≤o.getD y 0->(o.set w (o.getD v 0+1)).getD y 0=o.getD y 0:=fun y hy=>by
   rw [hg,if_neg]; rintro rfl; omega
  have hcn:=A59 (o:=o) (u:=w) (x:=o.getD v 0+1) (y:=o.getD w 0) (A1t (by rw [h.len]; exact hw)) hneg (by omega);have hqw:q≠w:=by rintro rfl; have:=h.q0; omega
  have hQ0: ∀a,a∈Q->0≤o.getD a 0:=fun a ha=>by have:=h.qm a ha; omega
  show PBq es n q v _ (o.set w (o.getD v 0+1)) (Q++[w]);refine ⟨by rw [Yz]; exact h.len,by rw [hg,if_neg hqw]; exact h.q0,fun x hx=> ?_,⟨h.vv.1,by rw [hgv]; exact hv0⟩,fun a ha=> ?_,?_,fun x hxn hxv h0 hxQ=> ?_,fun x hxn hxq h0=> ?_,fun y hy=> ?_⟩
  ·have h1:=h.bnd x hx;have h2:=h.bnd v h.vv.1;rw [hg];by_cases e:x=w
   ·rw [if_pos e]; omega
   ·rw [if_neg e]; omega
  ·rw [hgv];rcases XZ.1 ha with ha | ha
   ·rw [hgo a (hQ0 a ha)]; exact h.qm a ha
   ·rw [XQ.1 ha,hg,if_pos rfl]; exact ⟨hw,by omega,Jj _⟩
  ·rw [Qx9];refine ⟨h.srt.imp_of_mem fun {a b} ha hb hab=>by rw [hgo a (hQ0 a ha),hgo b (hQ0 b hb)]; exact hab,by simp,fun a ha b hb=> ?_⟩;rw [XQ.1 hb,hgo a (hQ0 a ha),hg w,if_pos rfl];exact (h.qm a ha).2.2
  ·have hxw:x≠w:=fun e=>hxQ (by rw [e]; simp);rw [hg,if_neg hxw] at h0 ⊢;rw [hgv];obtain ⟨q1,q2⟩:=h.proc x hxn hxv h0 fun hm=>hxQ (Qx7 _ hm);refine ⟨q1,fun y hy=> ?_⟩;have:=q2 y hy;rw [hgo _ this.1]; exact this
  ·by_cases hxw:x=w
   ·subst hxw;refine ⟨((v:Nat),k),C5K hx,?_,?_⟩
    ·simp only [Int.toNat_natCast]; rw [hgv]; exact hv0
    ·simp only [Int.toNat_natCast]; rw [hgv,hg,if_pos rfl]
   ·rw [hg,if_neg hxw] at h0 ⊢;obtain ⟨y,y1,y2,y3⟩:=h.par x hxn hxq h0;exact ⟨y,y1,by rw [hgo _ y2]; exact y2,by rw [hgo _ y2]; exact y3⟩
  ·rw [hgv];rcases XZ.1 hy with hy | hy
   ·have:=h.dn y hy;rw [hgo _ this.1]; exact this
   ·rw [XQ.1 hy];simp only [Int.toNat_natCast];rw [hg,if_pos rfl]; omega
 ·rename_i hneg;refine { h with dn:=fun y hy=> ?_ };rcases XZ.1 hy with hy | hy
  ·exact h.dn y hy
  ·rw [XQ.1 hy];simp only [Int.toNat_natCast];refine ⟨by omega,?_⟩;by_cases hm:w∈Q
   ·exact (h.qm w hm).2.2
   ·have:=(h.proc w hw hwv (by omega) hm).1; omega
def PBq.all {s:BS3} (hn: ∀x,x∈lnkL es v->0≤x.1∧x.1<n) (h:PBq es n q v [] s.1 s.2.1): ∀j,j≤(lnkL es v).length->PBq es n q v ((lnkL es v).take j) (((lnkL es v).take j).foldl (stepD v) s).1 (((lnkL es v).take j).foldl (stepD v) s).2.1
 | 0,_=>h
 | j+1,hj=>by
  have hlt:j<(lnkL es v).length:=by omega
  have hm:=Xw hlt;have ih:=PBq.all hn h j (by omega);rw [Xy hlt,Qw2];exact ih.step hm (hn _ hm)
def PBq.done {o:List Int} {Q:List Nat} (h:PBq es n q v (lnkL es v) o Q):BFq es n q o Q:=by
 refine ⟨h.len,h.q0,h.bnd,fun a ha=>⟨(h.qm a ha).1,by have:=h.qm a ha; have:=h.vv; omega⟩,h.srt,fun a b ha hb=>by have:=h.qm a ha; have:=h.qm b hb; omega,fun x hx h0 hxQ=> ?_,h.par⟩;by_cases e:x=v
 ·subst e; exact ⟨fun a ha=>(h.qm a ha).2.1,h.dn⟩
 ·have:=h.proc x hx e h0 hxQ;exact ⟨fun a ha=>Qw9 this.1 (h.qm a ha).2.1,this.2⟩
def C1b (v:Nat) (s:BS3) (x:Int×Int) (h:0≤s.1.getD v 0) (hx:x.1.toNat<s.1.length):2*cntNeg (stepD v s x).1+(stepD v s x).2.1.length≤2*cntNeg s.1+s.2.1.length:=by
 unfold stepD;split
 ·rename_i hneg;have:=A59 (o:=s.1) (u:=x.1.toNat) (x:=s.1.getD v 0+1) (A1t hx) hneg (by omega);simp only [Xv,List.length_singleton]; omega
 ·exact Qk _
def PBq.cnt {s:BS3} (hn: ∀x,x∈lnkL es v->0≤x.1∧x.1<n) (h:PBq es n q v [] s.1 s.2.1): ∀j,j≤(lnkL es v).length->2*cntNeg (((lnkL es v).take j).foldl (stepD v) s).1+(((lnkL es v).take j).foldl (stepD v) s).2.1.length≤2*cntNeg s.1+s.2.1.length
 | 0,_=>Qk _
 | j+1,hj=>by
  have hlt:j<(lnkL es v).length:=by omega
  have hm:=Xw hlt;have ih:=PBq.cnt hn h j (by omega);have hp:=h.all hn j (by omega);rw [Xy hlt,Qw2];refine Yw (C1b v _ _ hp.vv.2 (by rw [hp.len]; have:=hn _ hm; omega)) ih
def B7P (v:Nat) (s:BS3) {j:Nat} {x:Int×Int} (h:(lnkL es v)[j]? =some x):((lnkL es v).take (j+1)).foldl (stepD v) s=stepD v (((lnkL es v).take j).foldl (stepD v) s) x:=by
 rw [take_snoc h,Qw2]; rfl
def B34 (v:Nat): ∀(l:List (Int×Int)) (s:BS3),(l.foldl (stepD v) s).1.length=s.1.length
 | [],_=>rfl
 | x::l,s=>by
  rw [List.foldl_cons,B34 v l];unfold stepD;split
  ·simp only [Yz]
  ·rfl
inductive DEnd (es:List E):BS3->List Int->Nat->Prop where
 | stop {o:List Int} {p:Nat}:DEnd es (o,[],p) o p
 | go {o B:List Int} {v:Nat} {Q:List Nat} {p pB:Nat}:DEnd es (B8o es v (o,Q,p)) B pB->DEnd es (o,v::Q,p) B pB
def C8x (hn: ∀(v:Nat) x,x∈lnkL es v->0≤x.1∧x.1<n): ∀(f:Nat) (s:BS3),2*cntNeg s.1+s.2.1.length≤f->BFq es n q s.1 s.2.1-> ∃B pB,DEnd es s B pB∧BFq es n q B []:=by
 intro f
 induction f with
 | zero=>
  rintro ⟨o,Q,p⟩ hc h;simp only at hc h;cases Q with
  | nil=>exact ⟨o,p,.stop,h⟩
  | cons v Q=>simp at hc
 | succ f ih=>
  rintro ⟨o,Q,p⟩ hc h;simp only at hc h;cases Q with
  | nil=>exact ⟨o,p,.stop,h⟩
  | cons v Q=>
   have hp:=h.pop;have hd:=PBq.all (s:=(o,Q,p)) (hn v) hp _ (Qk _);have hct:=PBq.cnt (s:=(o,Q,p)) (hn v) hp _ (Qk _);rw [Zz] at hd hct;obtain ⟨B,pB,b1,b2⟩:=ih (B8o es v (o,Q,p)) (by unfold B8o; simp only [List.length_cons] at hc; simp only at hct; omega) hd.done;exact ⟨B,pB,.go b1,b2⟩
end
def A8f (n q:Nat):List Int:=(List.replicate n (-1)).set q 0
def B7Q (n:Nat):cntNeg (List.replicate n (-1))=n:=by
 induction n with
 | zero=>rfl
 | succ n ih=>unfold cntNeg at ih ⊢; rw [List.replicate_succ,Qx2,ih]; simp
def B6w {es:List E} {n q:Nat} (hq:q<n):BFq es n q (A8f n q) [q]:=by
 have hrl:(List.replicate n (-1):List Int).length=n:=by simp
 have hg: ∀x,(A8f n q).getD x 0=if x=q then 0 else (List.replicate n (-1)).getD x 0:=fun x=>A5k _ q 0 x (by rw [hrl]; exact hq)
 have hr: ∀x,x<n->(List.replicate n (-1):List Int).getD x 0= -1:=fun x hx=>by
  rw [Qz,Qq2,if_pos hx]; rfl
 have hc:=A59 (o:=List.replicate n (-1)) (u:=q) (x:=0) (y:= -1) (by rw [Qq2,if_pos hq]) (by decide) (by decide);rw [B7Q] at hc;have hc':cntNeg (A8f n q)+1=n:=hc;have hneg: ∀x,x<n->0≤(A8f n q).getD x 0->x=q:=fun x hx h0=>by
  refine QJ fun e=> ?_;rw [hg,if_neg e,hr x hx] at h0; omega
 refine ⟨by simp [A8f],by rw [hg,if_pos rfl],fun x hx=> ?_,fun a ha=> ?_,by simp,fun a b ha hb=> ?_,fun x hx h0 hxQ=> ?_,fun x hx hxq h0=> ?_⟩
 ·rw [hg];by_cases e:x=q
  ·rw [if_pos e]; omega
  ·rw [if_neg e,hr x hx]; omega
 ·rw [XQ.1 ha,hg,if_pos rfl]; exact ⟨hq,Jj _⟩
 ·rw [XQ.1 ha,XQ.1 hb]; omega
 ·exact absurd (by rw [hneg x hx h0]; simp) hxQ
 ·exact absurd (hneg x hx h0) hxq
end Go.Proofs.YtdbdfkohpjefjaaGreat
