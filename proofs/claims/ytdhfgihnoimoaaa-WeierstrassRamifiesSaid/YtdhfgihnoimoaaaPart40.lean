/- A part of the proof. -/
import Derived.Test.YtdhfgihnoimoaaaLayerC
import Derived.Test.YtdhfgihnoimoaaaPart39
import Derived.Test.YtdhfgihnoimoaaaPart32
import Derived.Test.YtdhfgihnoimoaaaPart38
import Derived.Test.YtdhfgihnoimoaaaPart29
set_option linter.all false
set_option maxHeartbeats 4000000
set_option maxRecDepth 100000
namespace Go.Proofs.Ytdhfgihnoimoaaa
open Go.Sp
def A5r (n d k:Nat):List (List Int):=(List.range k).flatMap fun j=>(A6X n (d-j)).map fun r=>(j:Int)::r
theorem A62 (n d k:Nat):A5r n d (k+1)=A5r n d k++(A6X n (d-k)).map fun r=>(k:Int)::r:=by
 unfold A5r; rw [List.range_succ,List.flatMap_append]; simp
theorem B0T (n d:Nat):A6X (n+2) d=A5r (n+1) d (d+1):=rfl
theorem A9D: ∀n d D:Nat,d≤D→(A6X (n+1) d).length≤(D+1)^n
 | 0,d,D,_=>by simp [A6X]
 | n+1,d,D,h=>by
  have key: ∀k,k≤d+1→(A5r (n+1) d k).length≤k*(D+1)^n:=fun k=>by
   induction k with
   | zero=>intro _; simp [A5r]
   | succ k ih=>
    intro hk
    have h1:=ih (by omega)
    have h2:=A9D n (d-k) D (by omega)
    rw [A62,List.length_append,List.length_map,Nat.add_mul]; omega
  have h1:=key (d+1) (Nat.le_refl _)
  have h2:(d+1)*(D+1)^n≤(D+1)*(D+1)^n:=Nat.mul_le_mul_right _ (by omega)
  rw [B0T,Nat.pow_succ,Nat.mul_comm ((D+1)^n)]; omega
theorem B5I (n d D k:Nat) (hd:d≤D) (hk:k≤d+1):(A5r (n+1) d k).length≤(D+1)^(n+1):=by
 have key: ∀k,k≤d+1→(A5r (n+1) d k).length≤k*(D+1)^n:=fun k=>by
  induction k with
  | zero=>intro _; simp [A5r]
  | succ k ih=>
   intro hk
   have h1:=ih (by omega)
   have h2:=A9D n (d-k) D (by omega)
   rw [A62,List.length_append,List.length_map,Nat.add_mul]; omega
 have h1:=key k hk
 have h2:k*(D+1)^n≤(D+1)*(D+1)^n:=Nat.mul_le_mul_right _ (by omega)
 rw [Nat.pow_succ,Nat.mul_comm ((D+1)^n)]; omega
theorem B5J (x:Int) (l:List Int):[Tree.int .i64 x]::A0p l=A0p (x::l):=rfl
theorem B0U (D:Nat) (hD:D<2^20): ∀n:Nat,(D+1)^n≤2^36→n≤12→ ∀d:Nat,d≤D→ACall Try.prog 92 [A0g ((n+1:Nat):Int),A0g d] (.t (.slice (A1c (A6X (n+1) d))))
 | 0,hp,hn,d,hd=>by
  have h1: ¬(d:Int)<0:=by omega
  refine ACall.of_body Try.func92 rfl (by kernel_rfl) ?_
  simp only [entry,Try.ntmps92,A0g]
  refine zU ?_
  refine zRc (zc @h1 trivial) trivial trivial ?_
  simp [A0E,A0C,Blk.cells,ty,Try.results92,A0y,A05,toT,A0e,A0c,A0d,A0a,A6X,A1c,A0p,chunks,List.range,List.range.loop]
 | n +1,hp,hn,d,hd=>by
  have hq:(D+1)^n≤(D+1)^(n+1):=Nat.pow_le_pow_right (by omega) (by omega)
  have hIH:=B0U D hD n (by omega) (by omega)
  have h1: ¬(d:Int)<0:=by omega
  have h2: ¬(((n+1+1:Nat):Int)=1):=by omega
  have h3:((n+1+1:Nat):Int)-1=((n+1:Nat):Int):=by omega
  have hpl:=fun k hk=>B5I n d D k hd hk
  have hz:A5r (n+1) d 0=[]:=rfl
  rw [B0T]
  refine ACall.of_body Try.func92 rfl (by kernel_rfl) ?_
  simp only [entry,Try.ntmps92,A0g]
  refine zU ?_
  refine zJ (stop 6) (zc @h1 (zc @h2 trivial)) trivial trivial trivial ?_
  refine AWp.weak (A0s.opens ((fun t f=>[f,f,f,f,f,t,f,f,f,f,f,f,f,f,f,f,f,f,f,f,f,f,f,f,f,f,f,f,f,f,f,f,f,f,f,f,f,f,f,f,f,f,f,f]) true false) 1 (by first | omega | simp)) ?_
  simp only [A2U,A9k,List.length_cons,List.length_nil,List.length_append,Nat.reduceAdd,List.cons_append,List.nil_append]
  refine zR trivial trivial trivial ?_
  refine AWp.loopS (α:=Nat) 44 (fun k=>[(0,.c (.int .i64 ((n+1+1:Nat):Int))),(1,.c (.int .i64 (d:Int))),(5,.c (.slice (A1c (A5r (n+1) d k)) (.chain 0))),(6,.c (.int .i64 (k:Int)))]) (fun k=>[.chain (A5r (n+1) d k).length 1]) (fun k=>k≤d+1) (fun k=>d+1-k) (0) (hk:=A0s.headL 1 44 [0,1,5,6] zW) (h0:=?_) (round:=fun k hI=>?_)
  ·exact Nat.zero_le _
  ·have hk:k≤d+1:=hI
   clear hI
   by_cases hkl:k<d+1
   ·have hkI:(k:Int)≤(d:Int):=by omega
    have hdk:(d:Int)-(k:Int)=((d-k:Nat):Int):=by omega
    have hC:=hIH (d-k) (by omega)
    have hsc:=A62 (n+1) d k
    have hl1:=hpl (k+1) (by omega)
    have hmem: ∀r,r∈A6X (n+1) (d-k)→r.length=n+1:=fun r hr=>(A3V.1 hr).1
    have hdl:d≤D:=hd
    rw [hsc,List.length_append,List.length_map] at hl1
    generalize A6X (n+1) (d-k)=L at*
    generalize hP1:A5r (n+1) d (k+1)=P1 at*
    generalize A5r (n+1) d k=P at*
    obtain ⟨Qf,hQf⟩: ∃Qf:Nat→List (List Int),∀i,Qf i=P++(L.take i).map fun r=>(k:Int)::r:=⟨_,fun _=>rfl⟩
    have hQ0:Qf 0=P:=by rw [hQf]; simp
    have hQl:Qf L.length=P1:=by rw [hQf,List.take_length]; exact hsc.symm
    have hQs: ∀i (h:i<L.length),Qf (i+1)=Qf i++[(k:Int)::L[i]]:=fun i h=>by
     rw [hQf,hQf,List.take_succ_eq_append_getElem h,List.map_append,List.append_assoc]; rfl
    have hQn: ∀i,(Qf i).length≤P.length+L.length:=fun i=>by rw [hQf]; simp; omega
    clear hQf
    refine zR (zc @hkI (zc @hdk (zc @h3 trivial))) (zc hC trivial) trivial ?_
    rw [←hQ0]
    refine AWp.loopS (α:=Nat) 44 (fun i=>[(0,.c (.int .i64 ((n+1+1:Nat):Int))),(1,.c (.int .i64 (d:Int))),(5,.c (.slice (A1c (Qf i)) (.chain 0))),(6,.c (.int .i64 (k:Int))),(7,.c (.slice (A1c L) .none)),(8,.c (.int .i64 (i:Int)))]) (fun i=>[.chain (Qf i).length 1]) (fun i=>i≤L.length) (fun i=>L.length-i) (0) (hk:=A0s.headL 1 44 [0,1,5,6,7,8] zW) (h0:=?_) (round:=fun i hI=>?_)
    ·exact Nat.zero_le _
    ·have hi:i≤L.length:=hI
     clear hI
     by_cases hil:i<L.length
     ·have hiI:(i:Int)<(L.length:Int):=by omega
      have e0:=List.getElem?_eq_getElem hil
      have e1:=A2F e0
      have hrl:=hmem _ (List.getElem_mem hil)
      have hsn:=hQs i hil
      have hqn:=hQn i
      generalize L[i]=r at*
      generalize hQ1:Qf (i+1)=Q1 at*
      generalize Qf i=Q at*
      have hln:Q1.length=Q.length+1:=by rw [hsn]; simp
      repeat' (first|((first|(refine zT ?_;intro K' hK')|(refine zG ?_ ?_<;>(try refine zH ?_)<;>intro hguard<;>(try exact zX)<;>try intro K' hK'))<;>((try simp+contextual only [go_sem,hiI,e1,A0f,A1l,hrl,B1A,B5J,Int.toNat_natCast,chunks,List.range,List.range.loop]);(repeat' first|(with_reducible refine hK' _ _ ?_;clear hK' K')|(with_reducible exact A1w (by assumption))|(with_reducible exact B4K (by assumption))|(exact .inr True.intro)|exact zY|with_reducible refine And.intro ?_ ?_|(with_reducible intro hpath;try exact zP)|(refine hK' _ _ ?_;clear hK' K')|fail);try refine zS ?_))|(refine zE ?_;refine hK _ _ ?_;clear hK K)|(refine zN ?_;try refine zS ?_)|refine zA ?_|(refine zB ?_;intro K hK)|(refine zC ?_ ?_<;>(try refine zH ?_)<;>intro hcond<;>try exact zX)|fail)
      rw [←hsn]
      refine ⟨i+1,A0s.headF 1 44 [0,1,5,6,7,8] (zc @hQ1 (zc @hln trivial)) zW,?_,?_⟩
      ·exact hil
      ·omega
     ·have hnl: ¬(i:Int)<(L.length:Int):=by omega
      have ei:i=L.length:=by omega
      rw [ei,hQl]
      rw [ei] at hnl
      refine zR (zc @hnl (zc @A1l trivial)) trivial trivial ?_
      refine ⟨k+1,A0s.headF 1 44 [0,1,5,6] (zc @hP1 trivial) zW,?_,?_⟩
      ·exact hkl
      ·omega
   ·have hnl: ¬(k:Int)≤(d:Int):=by omega
    have ek:k=d+1:=by omega
    rw [ek]
    rw [ek] at hnl
    generalize A5r (n+1) d (d+1)=P at*
    refine zR (zc @hnl trivial) trivial trivial ?_
    simp [A0E,A0C,Blk.cells,ty,Try.results92,A0y,A05,toT,A0e,A0c,A0d,A0a]
theorem B0V {a b:List Int} {n:Nat} (ha:a.length=n):A7k a b n n=A7h a b:=by
 unfold A7k A7h
 rw [ha]
 refine List.map_congr_left fun v hv=> ?_
 rw [if_pos (List.mem_range.1 hv)]
theorem B84 (a b:List Int) {n:Nat} (hn:n≤100) (h1:1≤n) (ha:a.length=n) (hb:b.length=n) (ha1:bndL 1048576 a) (hb1:bndL 1048576 b):
  ACall Try.prog 94 [A0m a,A0m b,A0g (-1)] (A0m (A7h a b)):=by
 have hnI:(0:Int)≤(n:Int):=by omega
 have hml:(A7h a b).length=n:=by rw [A5S]; exact ha
 rw [←B0V ha]
 refine ACall.of_body Try.func94 rfl (by kernel_rfl) ?_
 simp only [entry,Try.ntmps94,A0m,A0g]
 refine zU ?_
 repeat' ((fail_if_success (with_reducible refine AWp.atSeq 2 ?_));(fail_if_success (with_reducible refine AWp.atLast 2 ?_));first|((first|(refine zT ?_;intro K' hK')|(refine zG ?_ ?_<;>(try refine zH ?_)<;>intro hguard<;>(try exact zX)<;>try intro K' hK'))<;>((try simp+contextual only [go_sem,A0f,ha,A1R,A0F,List.length_replicate,Int.toNat_natCast,Nat.mul_one,Nat.zero_add]);(repeat' first|(with_reducible refine hK' _ _ ?_;clear hK' K')|exact zY|with_reducible refine And.intro ?_ ?_|(with_reducible intro hpath;try exact zP)|(refine hK' _ _ ?_;clear hK' K')|fail);try refine zS ?_))|(refine zE ?_;refine hK _ _ ?_;clear hK K)|(refine zN ?_;try refine zS ?_)|refine zA ?_|(refine zB ?_;intro K hK)|(refine zC ?_ ?_<;>(try refine zH ?_)<;>intro hcond<;>try exact zX)|fail)
 rw [←B0P a b n]
 refine zR trivial trivial trivial ?_
 refine AWp.loopS (α:=Nat) 33 (fun i=>[(0,.c (.slice (A0p a) .none)),(1,.c (.slice (A0p b) .none)),(2,.c (.int .i64 (-1))),(7,.c (.ref 0 1 0 n n)),(8,.c (.int .i64 (i:Int)))]) (fun i=>[.box (iC (A7k a b n i))]) (fun i=>i≤n) (fun i=>n-i) (0) (hk:=A0s.headL 1 33 [0,1,2,7,8] zW) (h0:=?_) (round:=fun i hI=>?_)
 ·exact Nat.zero_le _
 ·have hi:i≤n:=hI
  clear hI
  by_cases hil:i<n
  ·have hiI:(i:Int)<(n:Int):=by omega
   have ga:=A0P (A0u (d:=a) (i:=i) (by omega))
   have gb:=A0P (A0u (d:=b) (i:=i) (by omega))
   have xa:=ha1 i
   have xb:=hb1 i
   have hns:=B2N a b hil
   have hnl:=A4O a b n i
   have hst:=A2z (A7k a b n i) i (a.getD i 0-b.getD i 0)
   rw [hns] at hst
   clear hns ha1 hb1
   generalize hn1:A7k a b n (i+1)=N1 at*
   generalize A7k a b n i=N0 at*
   generalize a.getD i 0=x at*
   generalize b.getD i 0=y at*
   have hm1: -1*y= -y:=by omega
   have hm2:x+ -y=x-y:=by omega
   refine zR (zc @hiI (zc @ga (zc @gb (zc @hst (zc @hnl (zc @hm1 (zc @hm2 (zc @A0F (zc @A0f (zc @ha (zc @hb (zc @Nat.zero_add trivial)))))))))))) trivial trivial ?_
   refine ⟨i+1,A0s.headF 1 33 [0,1,2,7,8] (zc @hn1 trivial) zW,?_,?_⟩
   ·exact hil
   ·omega
  ·have hnl: ¬(i:Int)<(n:Int):=by omega
   have ei:i=n:=by omega
   rw [ei]
   rw [ei] at hnl
   have hl:=A4O a b n n
   generalize A7k a b n n=d at*
   have hr0:A0e [.box (iC d)] (.ref 0 1 0 n n)=some (.slice (A0p d)):=A4X hl rfl
   refine zR (zc @hnl (zc @A0f (zc @ha trivial))) trivial trivial ?_
   simp [A0E,A0C,Try.results94,A0y,A05,toT,hr0,A0m]
def inD (k:Int):Bool:=decide (-1048576≤k∧k≤1048576)
def B2Q (d:List Int) (n:Int):Int:=if n<1∨12<n then 2 else if (d.length:Int)≠n then 8 else if d.all inD=true then 0 else 2
theorem B2b {d:List Int} {n:Nat} (h:B2Q d n=0):1≤n∧n≤12∧d.length=n∧bndL 1048576 d:=by
 unfold B2Q at h
 split at h
 ·cases h
 ·split at h
  ·cases h
  ·split at h
   ·rename_i h1 h2 h3
    refine ⟨by omega,by omega,by omega,fun v=> ?_⟩
    by_cases hv:v<d.length
    ·rw [A1h hv]
     have:=List.all_eq_true.1 h3 _ (List.getElem_mem hv)
     unfold inD at this
     simpa using this
    ·rw [List.getD_eq_getElem?_getD,List.getElem?_eq_none (by omega)]; simp
   ·cases h
theorem B9F (k:Int):ACall Try.prog 82 [A0g k] (A09 (inD k)):=by
 unfold inD
 by_cases h1: -1048576≤k
 ·by_cases h2:k≤1048576
  ·have h3:k≥ -1048576:=h1
   rw [decide_eq_true ⟨h1,h2⟩]
   refine ACall.of_body Try.func82 rfl (by kernel_rfl) ?_
   simp only [entry,Try.ntmps82,A0g]
   refine zU ?_
   refine zR (zc @h3 (zc @h2 trivial)) trivial trivial ?_
   simp [A0E,A0C,Blk.cells,ty,Try.results82,A0y,A05,toT,A0e,A0c,A0d,A0a,A09]
  ·have h3:k≥ -1048576:=h1
   rw [decide_eq_false (fun h=>h2 h.2)]
   refine ACall.of_body Try.func82 rfl (by kernel_rfl) ?_
   simp only [entry,Try.ntmps82,A0g]
   refine zU ?_
   refine zR (zc @h3 (zc @h2 trivial)) trivial trivial ?_
   simp [A0E,A0C,Blk.cells,ty,Try.results82,A0y,A05,toT,A0e,A0c,A0d,A0a,A09]
 ·have h3: ¬k≥ -1048576:=h1
  rw [decide_eq_false (fun h=>h1 h.1)]
  refine ACall.of_body Try.func82 rfl (by kernel_rfl) ?_
  simp only [entry,Try.ntmps82,A0g]
  refine zU ?_
  refine zR (zc @h3 trivial) trivial trivial ?_
  simp [A0E,A0C,Blk.cells,ty,Try.results82,A0y,A05,toT,A0e,A0c,A0d,A0a,A09]
theorem B5K (k:Int):ACall Try.prog 68 [A0g k] (A09 (inD k)):=by
 unfold inD
 by_cases h1: -1048576≤k
 ·by_cases h2:k≤1048576
  ·have h3:k≥ -1048576:=h1
   rw [decide_eq_true ⟨h1,h2⟩]
   refine ACall.of_body Try.func68 rfl (by kernel_rfl) ?_
   simp only [entry,Try.ntmps68,A0g]
   refine zU ?_
   refine zR (zc @h3 (zc @h2 trivial)) trivial trivial ?_
   simp [A0E,A0C,Blk.cells,ty,Try.results68,A0y,A05,toT,A0e,A0c,A0d,A0a,A09]
  ·have h3:k≥ -1048576:=h1
   rw [decide_eq_false (fun h=>h2 h.2)]
   refine ACall.of_body Try.func68 rfl (by kernel_rfl) ?_
   simp only [entry,Try.ntmps68,A0g]
   refine zU ?_
   refine zR (zc @h3 (zc @h2 trivial)) trivial trivial ?_
   simp [A0E,A0C,Blk.cells,ty,Try.results68,A0y,A05,toT,A0e,A0c,A0d,A0a,A09]
 ·have h3: ¬k≥ -1048576:=h1
  rw [decide_eq_false (fun h=>h1 h.1)]
  refine ACall.of_body Try.func68 rfl (by kernel_rfl) ?_
  simp only [entry,Try.ntmps68,A0g]
  refine zU ?_
  refine zR (zc @h3 trivial) trivial trivial ?_
  simp [A0E,A0C,Blk.cells,ty,Try.results68,A0y,A05,toT,A0e,A0c,A0d,A0a,A09]
theorem B2c (n:Int):ACall Try.prog 85 [A0g n] (A0g (if n<1∨12<n then 2 else 0)):=by
 by_cases h1:n<1
 ·rw [if_pos (.inl h1)]
  refine ACall.of_body Try.func85 rfl (by kernel_rfl) ?_
  simp only [entry,Try.ntmps85,A0g]
  refine zU ?_
  refine zR (zc @h1 trivial) trivial trivial ?_
  simp [A0E,A0C,Blk.cells,ty,Try.results85,A0y,A05,toT,A0e,A0c,A0d,A0a,A0g]
 ·by_cases h2:n>12
  ·rw [if_pos (.inr h2)]
   refine ACall.of_body Try.func85 rfl (by kernel_rfl) ?_
   simp only [entry,Try.ntmps85,A0g]
   refine zU ?_
   refine zR (zc @h1 (zc @h2 trivial)) trivial trivial ?_
   simp [A0E,A0C,Blk.cells,ty,Try.results85,A0y,A05,toT,A0e,A0c,A0d,A0a,A0g]
  ·rw [if_neg (by omega)]
   refine ACall.of_body Try.func85 rfl (by kernel_rfl) ?_
   simp only [entry,Try.ntmps85,A0g]
   refine zU ?_
   refine zR (zc @h1 (zc @h2 trivial)) trivial trivial ?_
   simp [A0E,A0C,Blk.cells,ty,Try.results85,A0y,A05,toT,A0e,A0c,A0d,A0a,A0g]
theorem B5L {d:List Int} {i:Nat} (h: ∀j,j<i→inD (d.getD j 0)=true) (hi:i=d.length):d.all inD=true:=by
 rw [List.all_eq_true]
 intro x hx
 obtain ⟨j,hj,rfl⟩:=List.mem_iff_getElem.1 hx
 have:=h j (by omega)
 rwa [A1h hj] at this
theorem B5M {d:List Int} {i:Nat} (hi:i<d.length) (h:inD (d.getD i 0)=false): ¬d.all inD=true:=fun ha=>by
 have:=List.all_eq_true.1 ha _ (List.getElem_mem hi)
 rw [A1h hi,this] at h
 cases h
theorem B0W (d:List Int) (n:Int) (hdl:d.length<2^40):ACall Try.prog 63 [A0m d,A0g n] (A0g (B2Q d n)):=by
 unfold B2Q
 by_cases h1:n<1
 ·rw [if_pos (.inl h1)]
  refine ACall.of_body Try.func63 rfl (by kernel_rfl) ?_
  simp only [entry,Try.ntmps63,A0m,A0g]
  refine zU ?_
  refine zR (zc @h1 trivial) trivial trivial ?_
  simp [A0E,A0C,Blk.cells,ty,Try.results63,A0y,A05,toT,A0e,A0c,A0d,A0a,A0g]
 by_cases h2:n>12
 ·rw [if_pos (.inr h2)]
  refine ACall.of_body Try.func63 rfl (by kernel_rfl) ?_
  simp only [entry,Try.ntmps63,A0m,A0g]
  refine zU ?_
  refine zR (zc @h1 (zc @h2 trivial)) trivial trivial ?_
  simp [A0E,A0C,Blk.cells,ty,Try.results63,A0y,A05,toT,A0e,A0c,A0d,A0a,A0g]
 rw [if_neg (by omega)]
 by_cases hd:(d.length:Int)=n
 case neg=>
  rw [if_pos hd]
  refine ACall.of_body Try.func63 rfl (by kernel_rfl) ?_
  simp only [entry,Try.ntmps63,A0m,A0g]
  refine zU ?_
  refine zR (zc @h1 (zc @h2 (zc @A0f (zc @hd trivial)))) trivial trivial ?_
  simp [A0E,A0C,Blk.cells,ty,Try.results63,A0y,A05,toT,A0e,A0c,A0d,A0a,A0g]
 rw [if_neg (by omega)]
 subst hd
 refine ACall.of_body Try.func63 rfl (by kernel_rfl) ?_
 simp only [entry,Try.ntmps63,A0m,A0g]
 refine zU ?_
 refine zJ (stop 5) (zc @h1 (zc @h2 (zc @A0f trivial))) trivial trivial trivial ?_
 refine zR trivial trivial trivial ?_
 refine AWp.loopS (α:=Nat) 27 (fun i=>[(0,.c (.slice (A0p d) .none)),(1,.c (.int .i64 (d.length:Int))),(5,.c (.int .i64 (i:Int)))]) (fun i=>[]) (fun i=>i≤d.length∧ ∀j,j<i→inD (d.getD j 0)=true) (fun i=>d.length-i) (0) (hk:=A0s.headL 0 27 [0,1,5] zW) (h0:=?_) (round:=fun i hI=>?_)
 ·exact ⟨Nat.zero_le _,fun j hj=>by omega⟩
 ·obtain ⟨hi,hpre⟩:=hI
  by_cases hil:i<d.length
  ·have hiI:(i:Int)<(d.length:Int):=by omega
   have hg:=A0P (A0u (d:=d) (i:=i) hil)
   have hw:=B9F (d.getD i 0)
   cases hin:inD (d.getD i 0) with
   | false=>
    rw [if_neg (B5M hil hin)]
    rw [hin] at hw
    clear hpre hin
    generalize d.getD i 0=x at*
    refine zR (zc @hiI (zc @hg (zc @A0f (zc @Nat.zero_add trivial)))) (zc hw trivial) trivial ?_
    simp [A0E,A0C,Blk.cells,ty,Try.results63,A0y,A05,toT,A0e,A0c,A0d,A0a,A0g]
   | true=>
    have hp2: ∀j,j<i+1→inD (d.getD j 0)=true:=fun j hj=>by
     by_cases e:j=i
     ·rw [e]; exact hin
     ·exact hpre j (by omega)
    rw [hin] at hw
    clear hpre hin
    generalize d.getD i 0=x at*
    refine zR (zc @hiI (zc @hg (zc @A0f (zc @Nat.zero_add trivial)))) (zc hw trivial) trivial ?_
    refine ⟨i+1,A0s.headN 0 27 [0,1,5] zW,?_,?_⟩
    ·exact ⟨hil,hp2⟩
    ·omega
  ·have hnl: ¬(i:Int)<(d.length:Int):=by omega
   rw [if_pos (B5L hpre (by omega))]
   refine zR (zc @hnl trivial) trivial trivial ?_
   simp [A0E,A0C,Blk.cells,ty,Try.results63,A0y,A05,toT,A0e,A0c,A0d,A0a,A0g]
theorem B5N (d:List Int) (n:Int) (hdl:d.length<2^40):ACall Try.prog 83 [A0m d,A0g n] (A0g (B2Q d n)):=by
 have hV:=B2c n
 unfold B2Q
 by_cases h1:n<1∨12<n
 ·rw [if_pos h1] at hV ⊢
  refine ACall.of_body Try.func83 rfl (by kernel_rfl) ?_
  simp only [entry,Try.ntmps83,A0m,A0g]
  refine zU ?_
  refine zR trivial (zc hV trivial) trivial ?_
  simp [A0E,A0C,Blk.cells,ty,Try.results83,A0y,A05,toT,A0e,A0c,A0d,A0a,A0g]
 rw [if_neg h1] at hV ⊢
 by_cases hd:(d.length:Int)=n
 case neg=>
  rw [if_pos hd]
  refine ACall.of_body Try.func83 rfl (by kernel_rfl) ?_
  simp only [entry,Try.ntmps83,A0m,A0g]
  refine zU ?_
  refine zR (zc @A0f (zc @hd trivial)) (zc hV trivial) trivial ?_
  simp [A0E,A0C,Blk.cells,ty,Try.results83,A0y,A05,toT,A0e,A0c,A0d,A0a,A0g]
 rw [if_neg (by omega)]
 subst hd
 refine ACall.of_body Try.func83 rfl (by kernel_rfl) ?_
 simp only [entry,Try.ntmps83,A0m,A0g]
 refine zU ?_
 refine zJ (stop 7) (zc @A0f trivial) (zc hV trivial) trivial trivial ?_
 refine AWp.loopS (α:=Nat) 27 (fun i=>[(17,.c (.slice (A0p d) .none)),(18,.c (.int .i64 (d.length:Int))),(19,.c (.int .i64 (i:Int)))]) (fun i=>[]) (fun i=>i≤d.length∧ ∀j,j<i→inD (d.getD j 0)=true) (fun i=>d.length-i) (0) (hk:=A0s.headL 0 27 [17,18,19] zW) (h0:=?_) (round:=fun i hI=>?_)
 ·exact ⟨Nat.zero_le _,fun j hj=>by omega⟩
 ·obtain ⟨hi,hpre⟩:=hI
  by_cases hil:i<d.length
  ·have hiI:(i:Int)<(d.length:Int):=by omega
   have hg:=A0P (A0u (d:=d) (i:=i) hil)
   have hw:=B5K (d.getD i 0)
   cases hin:inD (d.getD i 0) with
   | false=>
    rw [if_neg (B5M hil hin)]
    rw [hin] at hw
    clear hpre hin
    generalize d.getD i 0=x at*
    refine zR (zc @hiI (zc @hg (zc @A0f (zc @Nat.zero_add trivial)))) (zc hw trivial) trivial ?_
    simp [A0E,A0C,Blk.cells,ty,Try.results83,A0y,A05,toT,A0e,A0c,A0d,A0a,A0g]
   | true=>
    have hp2: ∀j,j<i+1→inD (d.getD j 0)=true:=fun j hj=>by
     by_cases e:j=i
     ·rw [e]; exact hin
     ·exact hpre j (by omega)
    rw [hin] at hw
    clear hpre hin
    generalize d.getD i 0=x at*
    refine zR (zc @hiI (zc @hg (zc @A0f (zc @Nat.zero_add trivial)))) (zc hw trivial) trivial ?_
    refine ⟨i+1,A0s.headN 0 27 [17,18,19] zW,?_,?_⟩
    ·exact ⟨hil,hp2⟩
    ·omega
  ·have hnl: ¬(i:Int)<(d.length:Int):=by omega
   rw [if_pos (B5L hpre (by omega))]
   refine zR (zc @hnl trivial) trivial trivial ?_
   simp [A0E,A0C,Blk.cells,ty,Try.results83,A0y,A05,toT,A0e,A0c,A0d,A0a,A0g]
theorem A8w (g:G) (hl:g.es.length≤40):ACall Try.prog 62 [tG g] (A0g (A0D g)):=by
 have hC:=A5B g (by omega)
 unfold A0D
 by_cases hc:checkG g=0
 ·have hCn:=B3K g hl hc
  rw [if_neg (by omega)]
  rw [hc] at hC
  generalize connB g=b at*
  obtain ⟨n,es⟩:=g
  refine ACall.of_body Try.func62 rfl (by kernel_rfl) ?_
  simp only [entry,Try.ntmps62,tG]
  refine zU ?_
  cases b with
  | true=>
   rw [if_pos rfl]
   refine zR trivial (zc hC (zc hCn trivial)) trivial ?_
   simp [A0E,A0C,Blk.cells,ty,Try.results62,A0y,A05,toT,A0e,A0c,A0d,A0a,A0g]
  | false=>
   rw [if_neg (by simp)]
   refine zR trivial (zc hC (zc hCn trivial)) trivial ?_
   simp [A0E,A0C,Blk.cells,ty,Try.results62,A0y,A05,toT,A0e,A0c,A0d,A0a,A0g]
 ·rw [if_pos hc]
  generalize checkG g=e at*
  obtain ⟨n,es⟩:=g
  refine ACall.of_body Try.func62 rfl (by kernel_rfl) ?_
  simp only [entry,Try.ntmps62,tG]
  refine zU ?_
  refine zR (zc @hc trivial) (zc hC trivial) trivial ?_
  simp [A0E,A0C,Blk.cells,ty,Try.results62,A0y,A05,toT,A0e,A0c,A0d,A0a,A0g]
def A3t (g:G) (d:List Int):Int:=if A0D g≠0 then A0D g else B2Q d g.n
theorem A3X (g:G) (d:List Int) (hl:g.es.length≤40) (hdl:d.length<2^40):ACall Try.prog 42 [tG g,A0m d] (A0g (A3t g d)):=by
 have hJ:=A8w g hl
 have hC:=B0W d g.n hdl
 unfold A3t
 by_cases hc:A0D g=0
 ·rw [if_neg (by omega)]
  rw [hc] at hJ
  generalize B2Q d g.n=e at*
  obtain ⟨n,es⟩:=g
  refine ACall.of_body Try.func42 rfl (by kernel_rfl) ?_
  simp only [entry,Try.ntmps42,tG,A0m]
  refine zU ?_
  refine zR trivial (zc hJ (zc hC trivial)) trivial ?_
  simp [A0E,A0C,Blk.cells,ty,Try.results42,A0y,A05,toT,A0e,A0c,A0d,A0a,A0g]
 ·rw [if_pos hc]
  generalize A0D g=e at*
  obtain ⟨n,es⟩:=g
  refine ACall.of_body Try.func42 rfl (by kernel_rfl) ?_
  simp only [entry,Try.ntmps42,tG,A0m]
  refine zU ?_
  refine zR (zc @hc trivial) (zc hJ trivial) trivial ?_
  simp [A0E,A0C,Blk.cells,ty,Try.results42,A0y,A05,toT,A0e,A0c,A0d,A0a,A0g]
theorem B2d {es:List E} (hm: ∀e,e∈es→e.m≤50):B28 50 es=es.filter fun e=>decide (e.a≠e.b):=by
 induction es with
 | nil=>rfl
 | cons e es ih=>
  have ih':=ih fun x hx=>hm x (by simp [hx])
  have h1:=hm e (by simp)
  unfold B28 at ih' ⊢
  rw [List.flatMap_cons,ih']
  unfold B8j
  by_cases h:e.a=e.b
  ·rw [if_pos h,List.filter_cons,if_neg (by simpa using h)]; rfl
  ·rw [if_neg h,List.filter_cons,if_pos (by simpa using h),show min e.m 50=e.m by omega]; rfl
theorem A6L: ∀{es:List E},(∀e,e∈es→0≤e.m)→((endsL (es.filter fun e=>decide (e.a≠e.b))).length:Int)=sizeE es
 | [],_=>rfl
 | e::es,h=>by
  have ih:=A6L (es:=es) fun x hx=>h x (by simp [hx])
  have h1:=h e (by simp)
  simp only [sizeE]
  rw [List.filter_cons]
  by_cases hab:e.a=e.b
  ·rw [if_neg (by simpa using hab),if_neg (by simpa using hab),ih]; omega
  ·rw [if_pos (by simpa using hab),if_pos hab,A8E,List.length_append,List.length_replicate,Int.natCast_add,ih]; omega
theorem B2e {es:List E} {u v:Nat} (h:Conn (endsL es) u v):Conn (endsL (es.filter fun e=>decide (e.a≠e.b))) u v:=by
 have hin: ∀{p:Int×Int},p∈endsL es→p.1≠p.2→p∈endsL (es.filter fun e=>decide (e.a≠e.b)):=fun {p} hp hne=>by
  unfold endsL at hp ⊢
  obtain ⟨e,he,hr⟩:=List.mem_flatMap.1 hp
  have:=List.eq_of_mem_replicate hr
  subst this
  exact List.mem_flatMap.2 ⟨e,List.mem_filter.2 ⟨he,by simpa using hne⟩,hr⟩
 induction h with
 | refl=>exact .refl
 | step hp hs ih=>
  rename_i y z
  by_cases e:y=z
  ·rw [←e]; exact ih
  ·refine .step ih ?_
   rcases hs with hs | hs
   ·exact .inl (hin hs (by simp only; omega))
   ·exact .inr (hin hs (by simp only; omega))
theorem A9E {es:List E} {u v:Nat} (h:Conn (endsL (es.filter fun e=>decide (e.a≠e.b))) u v):Conn (endsL es) u v:=by
 induction h with
 | refl=>exact .refl
 | step hp hs ih=>
  have hin: ∀{p:Int×Int},p∈endsL (es.filter fun e=>decide (e.a≠e.b))→p∈endsL es:=fun {p} hp=>by
   unfold endsL at hp ⊢
   obtain ⟨e,he,hr⟩:=List.mem_flatMap.1 hp
   exact List.mem_flatMap.2 ⟨e,(List.mem_filter.1 he).1,hr⟩
  exact .step ih (hs.imp hin hin)
theorem B2R {n:Nat} {es:List E} (hl:es.length≤40) (hc:checkG ⟨(n:Int),es⟩=0) (hcn:connB ⟨(n:Int),es⟩=true):Gok n es:=by
 have h:=A02.1 hc
 obtain ⟨h1,h2⟩:=B8y (g:=⟨(n:Int),es⟩) hc rfl hcn
 have h3:=h.1
 simp only at h3
 exact ⟨by omega,by omega,hl,h1,fun e he=>by have:=h.2.1 e he; unfold okE at this; exact this.2.2.2.1,h2,hc,hcn⟩
theorem B5O {n:Nat} {es:List E} (g:Gok n es): ∃es2:List E,es2.length≤es.length∧B8k ⟨(n:Int),es⟩ 50=⟨(n:Int),es2⟩∧checkG ⟨(n:Int),es2⟩=0∧B8f (endsL es2)=sizeE es-n+1∧connB ⟨(n:Int),es2⟩=true:=by
 have h:=A02.1 g.hc
 have hm: ∀e,e∈es→e.m≤50:=fun e he=>by have:=h.2.1 e he; unfold okE at this; exact this.2.2.2.2
 refine ⟨es.filter fun e=>decide (e.a≠e.b),List.length_filter_le _ _,?_,?_⟩
 ·unfold B8k
  rw [if_neg (by have:=g.hc; omega)]
  show (⟨(n:Int),B28 50 es⟩:G)=_
  rw [B2d hm]
 ·have hc2:checkG ⟨(n:Int),es.filter fun e=>decide (e.a≠e.b)⟩=0:=A02.2 ⟨h.1,fun e he=>h.2.1 e (List.mem_filter.1 he).1,h.2.2.sublist List.filter_sublist⟩
  have hconn:Conn (endsL (es.filter fun e=>decide (e.a≠e.b)))=Conn (endsL es):=by
   funext u v
   exact propext ⟨A9E,B2e⟩
  have h1:=A6z (g:=⟨(n:Int),es⟩) g.hc rfl
  have h2:=A6z (g:=⟨(n:Int),es.filter fun e=>decide (e.a≠e.b)⟩) hc2 rfl
  simp only [hconn] at h2
  have hcb:connB ⟨(n:Int),es.filter fun e=>decide (e.a≠e.b)⟩=true:=by rw [h2,←h1]; exact g.hcc
  refine ⟨hc2,?_,hcb⟩
  have hg:=B6C (g:=⟨(n:Int),es.filter fun e=>decide (e.a≠e.b)⟩) (n:=n) hc2 rfl
  have hp:A2m (es.filter fun e=>decide (e.a≠e.b)) n n=1:=by
   unfold connB at hcb
   rw [decide_eq_true_eq] at hcb
   simpa using hcb
  simp only [hp] at hg
  rw [hg,A6L fun e he=>by have:=h.2.1 e he; unfold okE at this; omega]
  omega
theorem A63: ∀{es:List E},(∀e,e∈es→0≤e.m)→0≤sizeE es∧sizeE es≤(endsL es).length
 | [],_=>⟨Int.le_refl _,Int.le_refl _⟩
 | e::es,h=>by
  have ih:=A63 (es:=es) fun x hx=>h x (by simp [hx])
  have h1:=h e (by simp)
  simp only [sizeE]
  rw [A8E,List.length_append,List.length_replicate,Int.natCast_add]
  split<;>omega
theorem B2f {n:Nat} {es:List E} (g:Gok n es):0≤sizeE es-n+1:=by
 obtain ⟨es2,_,_,hc2,hg,_⟩:=B5O g
 have h:=A02.1 hc2
 have h12:=g.h12
 have:=(B1C (l:=endsL es2) fun p hp=>by
  obtain ⟨e,he,q⟩:=A36 hp
  have hr:=h.2.1 e he
  unfold okE at hr
  simp only at hr
  subst q
  simp only
  omega).2.1
 unfold B8f at hg
 omega
theorem B5P {es:List E} (h:EsOk 1 es):sizeE es=0:=by
 induction es with
 | nil=>rfl
 | cons e es ih=>
  have:=h.rng e (by simp)
  simp only [sizeE]
  rw [if_neg (by omega),ih h.tail]; rfl
theorem B9v {n:Nat} {es:List E} (g:Gok n es) (hn:n≤5) (hs:(endsL es).length≤7):RkC n es (sizeE es-n+1) 110 (2*(sizeE es-n+1)-2).toNat:=by
 have h1:=g.h1
 have hg:=B2f g
 have hz:=A63 (es:=es) fun e he=>by have:=g.hm1 e he; omega
 have hz1:n=1→sizeE es=0:=fun e=>by subst e; exact B5P g.hE
 refine ⟨g,by rw [B0C g.hE]; omega,by omega,by decide,by omega,by omega,by omega,?_,7,by decide,by omega,?_⟩
 ·generalize hN:(2*(sizeE es-n+1)-2).toNat=N
  have h5:n=1∨n=2∨n=3∨n=4∨n=5:=by omega
  rcases h5 with rfl | rfl | rfl | rfl | rfl
  ·have hN2:N+1≤13:=by omega
   exact Nat.le_trans (Nat.pow_le_pow_left hN2 1) (by decide)
  ·have hN2:N+1≤11:=by omega
   exact Nat.le_trans (Nat.pow_le_pow_left hN2 2) (by decide)
  ·have hN2:N+1≤9:=by omega
   exact Nat.le_trans (Nat.pow_le_pow_left hN2 3) (by decide)
  ·have hN2:N+1≤7:=by omega
   exact Nat.le_trans (Nat.pow_le_pow_left hN2 4) (by decide)
  ·have hN2:N+1≤5:=by omega
   exact Nat.le_trans (Nat.pow_le_pow_left hN2 5) (by decide)
 ·have h5:n=1∨n=2∨n=3∨n=4∨n=5:=by omega
  rcases h5 with rfl | rfl | rfl | rfl | rfl<;>decide
end Go.Proofs.Ytdhfgihnoimoaaa
