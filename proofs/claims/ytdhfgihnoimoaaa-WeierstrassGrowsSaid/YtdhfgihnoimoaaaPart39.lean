/- A part of the proof. -/
import Derived.Test.YtdhfgihnoimoaaaPart37
import Derived.Test.YtdhfgihnoimoaaaPart32
import Derived.Test.YtdhfgihnoimoaaaPart13
import Derived.Test.YtdhfgihnoimoaaaLayerE
import Derived.Test.YtdhfgihnoimoaaaLayerC
import Derived.Test.YtdhfgihnoimoaaaPart29
set_option linter.all false
set_option maxHeartbeats 4000000
set_option maxRecDepth 100000
namespace Go.Proofs.Ytdhfgihnoimoaaa
open Go.Sp
theorem A1U {d:List Int} {i:Nat} (h:i<d.length):d.getD i 0=d[i]:=by
 rw [List.getD_eq_getElem?_getD,List.getElem?_eq_getElem h]; rfl
open Classical in
noncomputable def B8P (n:Nat) (es:List E) (d:List Int):Bool:=decide (win n (mulE es) fun v=>d.getD v 0)
theorem A9L {n:Nat} {es:List E} {d:List Int}:B8P n es d=true↔win n (mulE es) fun v=>d.getD v 0:=by
 classical simp [B8P]
end Go.Proofs.Ytdhfgihnoimoaaa
namespace Go.Proofs.Ytdhfgihnoimoaaa
open Go.Sp
theorem B5E {a b:List Int} {n:Nat} (ha:a.length=n):A9K a b n n=B0K a b:=by
 unfold A9K B0K
 rw [ha]
 refine List.map_congr_left fun v hv=> ?_
 rw [if_pos (List.mem_range.1 hv)]
def inD (k:Int):Bool:=decide (-1048576≤k∧k≤1048576)
def B7h (d:List Int) (n:Int):Int:=if n<1∨12<n then 2 else if (d.length:Int)≠n then 8 else if d.all inD=true then 0 else 2
theorem B5F {d:List Int} {n:Nat} (h1:1≤n) (h12:n≤12) (hd:d.length=n) (hb:bndL 1048576 d):B7h d n=0:=by
 unfold B7h
 rw [if_neg (by omega),if_neg (by omega),if_pos]
 rw [List.all_eq_true]
 intro x hx
 obtain ⟨i,hi,rfl⟩:=List.mem_iff_getElem.1 hx
 have:=hb i
 rw [A1U hi] at this
 unfold inD
 rw [decide_eq_true_eq]; omega
theorem B5G (k:Int):ACall Try.prog 68 [A0j k] (A0G (inD k)):=by
 unfold inD
 by_cases h1: -1048576≤k
 ·by_cases h2:k≤1048576
  ·have h3:k≥ -1048576:=h1
   rw [decide_eq_true ⟨h1,h2⟩]
   refine ACall.of_body Try.func68 rfl (by kernel_rfl) ?_
   simp only [entry,Try.ntmps68,A0j]
   refine zU ?_
   refine zR (zc @h3 (zc @h2 trivial)) trivial trivial ?_
   simp [A0J,A0I,Blk.cells,ty,Try.results68,A05,A08,toT,A0e,A0c,A0d,A0a,A0G]
  ·have h3:k≥ -1048576:=h1
   rw [decide_eq_false (fun h=>h2 h.2)]
   refine ACall.of_body Try.func68 rfl (by kernel_rfl) ?_
   simp only [entry,Try.ntmps68,A0j]
   refine zU ?_
   refine zR (zc @h3 (zc @h2 trivial)) trivial trivial ?_
   simp [A0J,A0I,Blk.cells,ty,Try.results68,A05,A08,toT,A0e,A0c,A0d,A0a,A0G]
 ·have h3: ¬k≥ -1048576:=h1
  rw [decide_eq_false (fun h=>h1 h.1)]
  refine ACall.of_body Try.func68 rfl (by kernel_rfl) ?_
  simp only [entry,Try.ntmps68,A0j]
  refine zU ?_
  refine zR (zc @h3 trivial) trivial trivial ?_
  simp [A0J,A0I,Blk.cells,ty,Try.results68,A05,A08,toT,A0e,A0c,A0d,A0a,A0G]
theorem B1X (n:Int):ACall Try.prog 85 [A0j n] (A0j (if n<1∨12<n then 2 else 0)):=by
 by_cases h1:n<1
 ·rw [if_pos (.inl h1)]
  refine ACall.of_body Try.func85 rfl (by kernel_rfl) ?_
  simp only [entry,Try.ntmps85,A0j]
  refine zU ?_
  refine zR (zc @h1 trivial) trivial trivial ?_
  simp [A0J,A0I,Blk.cells,ty,Try.results85,A05,A08,toT,A0e,A0c,A0d,A0a,A0j]
 ·by_cases h2:n>12
  ·rw [if_pos (.inr h2)]
   refine ACall.of_body Try.func85 rfl (by kernel_rfl) ?_
   simp only [entry,Try.ntmps85,A0j]
   refine zU ?_
   refine zR (zc @h1 (zc @h2 trivial)) trivial trivial ?_
   simp [A0J,A0I,Blk.cells,ty,Try.results85,A05,A08,toT,A0e,A0c,A0d,A0a,A0j]
  ·rw [if_neg (by omega)]
   refine ACall.of_body Try.func85 rfl (by kernel_rfl) ?_
   simp only [entry,Try.ntmps85,A0j]
   refine zU ?_
   refine zR (zc @h1 (zc @h2 trivial)) trivial trivial ?_
   simp [A0J,A0I,Blk.cells,ty,Try.results85,A05,A08,toT,A0e,A0c,A0d,A0a,A0j]
theorem B83 {d:List Int} {i:Nat} (h: ∀j,j<i→inD (d.getD j 0)=true) (hi:i=d.length):d.all inD=true:=by
 rw [List.all_eq_true]
 intro x hx
 obtain ⟨j,hj,rfl⟩:=List.mem_iff_getElem.1 hx
 have:=h j (by omega)
 rwa [A1U hj] at this
theorem B84 {d:List Int} {i:Nat} (hi:i<d.length) (h:inD (d.getD i 0)=false): ¬d.all inD=true:=fun ha=>by
 have:=List.all_eq_true.1 ha _ (List.getElem_mem hi)
 rw [A1U hi,this] at h
 cases h
theorem B5H (d:List Int) (n:Int) (hdl:d.length<2^40):ACall Try.prog 83 [A00 d,A0j n] (A0j (B7h d n)):=by
 have hV:=B1X n
 unfold B7h
 by_cases h1:n<1∨12<n
 ·rw [if_pos h1] at hV ⊢
  refine ACall.of_body Try.func83 rfl (by kernel_rfl) ?_
  simp only [entry,Try.ntmps83,A00,A0j]
  refine zU ?_
  refine zR trivial (zc hV trivial) trivial ?_
  simp [A0J,A0I,Blk.cells,ty,Try.results83,A05,A08,toT,A0e,A0c,A0d,A0a,A0j]
 rw [if_neg h1] at hV ⊢
 by_cases hd:(d.length:Int)=n
 case neg=>
  rw [if_pos hd]
  refine ACall.of_body Try.func83 rfl (by kernel_rfl) ?_
  simp only [entry,Try.ntmps83,A00,A0j]
  refine zU ?_
  refine zR (zc @A0l (zc @hd trivial)) (zc hV trivial) trivial ?_
  simp [A0J,A0I,Blk.cells,ty,Try.results83,A05,A08,toT,A0e,A0c,A0d,A0a,A0j]
 rw [if_neg (by omega)]
 subst hd
 refine ACall.of_body Try.func83 rfl (by kernel_rfl) ?_
 simp only [entry,Try.ntmps83,A00,A0j]
 refine zU ?_
 refine zJ (stop 7) (zc @A0l trivial) (zc hV trivial) trivial trivial ?_
 refine AWp.loopS (α:=Nat) 27 (fun i=>[(17,.c (.slice (A0q d) .none)),(18,.c (.int .i64 (d.length:Int))),(19,.c (.int .i64 (i:Int)))]) (fun i=>[]) (fun i=>i≤d.length∧ ∀j,j<i→inD (d.getD j 0)=true) (fun i=>d.length-i) (0) (hk:=A0r.headL 0 27 [17,18,19] zW) (h0:=?_) (round:=fun i hI=>?_)
 ·exact ⟨Nat.zero_le _,fun j hj=>by omega⟩
 ·obtain ⟨hi,hpre⟩:=hI
  by_cases hil:i<d.length
  ·have hiI:(i:Int)<(d.length:Int):=by omega
   have hg:=A0T (A07 (d:=d) (i:=i) hil)
   have hw:=B5G (d.getD i 0)
   cases hin:inD (d.getD i 0) with
   | false=>
    rw [if_neg (B84 hil hin)]
    rw [hin] at hw
    clear hpre hin
    generalize d.getD i 0=x at*
    refine zR (zc @hiI (zc @hg (zc @A0l (zc @Nat.zero_add trivial)))) (zc hw trivial) trivial ?_
    simp [A0J,A0I,Blk.cells,ty,Try.results83,A05,A08,toT,A0e,A0c,A0d,A0a,A0j]
   | true=>
    have hp2: ∀j,j<i+1→inD (d.getD j 0)=true:=fun j hj=>by
     by_cases e:j=i
     ·rw [e]; exact hin
     ·exact hpre j (by omega)
    rw [hin] at hw
    clear hpre hin
    generalize d.getD i 0=x at*
    refine zR (zc @hiI (zc @hg (zc @A0l (zc @Nat.zero_add trivial)))) (zc hw trivial) trivial ?_
    refine ⟨i+1,A0r.headN 0 27 [17,18,19] zW,?_,?_⟩
    ·exact ⟨hil,hp2⟩
    ·omega
  ·have hnl: ¬(i:Int)<(d.length:Int):=by omega
   rw [if_pos (B83 hpre (by omega))]
   refine zR (zc @hnl trivial) trivial trivial ?_
   simp [A0J,A0I,Blk.cells,ty,Try.results83,A05,A08,toT,A0e,A0c,A0d,A0a,A0j]
def B0b (g:G) (d:List Int):Int:=if A02 g≠0 then A02 g else B7h d g.n
end Go.Proofs.Ytdhfgihnoimoaaa
