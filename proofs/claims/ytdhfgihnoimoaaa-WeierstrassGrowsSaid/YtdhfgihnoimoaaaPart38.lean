/- A part of the proof. -/
import Derived.Test.YtdhfgihnoimoaaaPart37
import Derived.Test.YtdhfgihnoimoaaaPart15
import Derived.Test.YtdhfgihnoimoaaaLayerC
import Derived.Test.YtdhfgihnoimoaaaPart32
import Derived.Test.YtdhfgihnoimoaaaLayerE
import Derived.Test.YtdhfgihnoimoaaaLayerD
set_option linter.all false
set_option maxHeartbeats 4000000
set_option maxRecDepth 100000
namespace Go.Proofs.Ytdhfgihnoimoaaa
open Go.Sp
theorem B90:Try.prog.keyTypeAt 3 117=true:=by kernel_rfl
theorem B91:Try.prog.tiled 3 117=true:=by kernel_rfl
theorem B7e:(match Try.prog.underlying 117 with | some (.array _ _) | some (.struct _)=>true | _=>false)=true:=by kernel_rfl
set_option maxRecDepth 100000 in
theorem B5C:KeyLaw Try.prog 117 (.ints 12):=
 B1y (m:=3) (by decide) B90 B91 B7e (B6v (it:=3) (by kernel_rfl) (by kernel_rfl) (by kernel_rfl) (by kernel_rfl) (by kernel_rfl) (of_decide_eq_true (by kernel_rfl)))
theorem B81:A9n Try.prog 114=some (117,3):=by simp only [ty]
def kp (R:List Int):List Int:=R++List.replicate (12-R.length) 0
theorem B7I {R:List Int} (h:R.length≤12):(kp R).length=12:=by unfold kp; rw [List.length_append,List.length_replicate]; omega
theorem B92 {R R':List Int} (hl:R.length=R'.length) (h:kp R=kp R'):R=R':=by
 unfold kp at h
 exact (List.append_inj h hl).1
theorem B7f (l:List Int):(iC l).mapM Go.Sp.intOf=some l:=by
 induction l with
 | nil=>rfl
 | cons x l ih=>unfold iC at ih ⊢; rw [List.map_cons,List.mapM_cons,ih]; rfl
structure MOk (n:Nat) (es:List E) (N:Nat) (M:List (MKey×MV)):Prop where
 ent: ∀e,e∈M→ ∃R:List Int,R.length=n∧(∀x,x∈R→0≤x∧x≤N)∧e=(.ints (kp R),.c (.int .i64 (rkD n (mulE es) fun v=>R.getD v 0)))
 nd:(M.map (·.1)).Nodup
theorem MOk.nil (n:Nat) (es:List E) (N:Nat):MOk n es N []:=⟨fun e he=>(by cases he),List.nodup_nil⟩
section
variable {n:Nat} {es:List E} {N:Nat} {M:List (MKey×MV)}
theorem MOk.len (h:MOk n es N M):M.length≤(N+1)^n:=by
 have:=List.Nodup.length_le_of_subset h.nd (l₂:=(B7G n N).map fun R=>MKey.ints (kp R)) (fun k hk=>by
  obtain ⟨e,he,rfl⟩:=List.mem_map.1 hk
  obtain ⟨R,h1,h2,rfl⟩:=h.ent e he
  exact List.mem_map.2 ⟨R,B2C h1 h2,rfl⟩)
 rwa [List.length_map,List.length_map,B2B] at this
theorem MOk.val (h:MOk n es N M) {R:List Int} (hR:R.length=n) {z:MV} (hh:A9Y M (.ints (kp R))=true):A6c M (.ints (kp R)) z= .c (.int .i64 (rkD n (mulE es) fun v=>R.getD v 0)):=by
 unfold A9Y at hh
 obtain ⟨i,hi⟩:=Option.isSome_iff_exists.1 hh
 obtain ⟨v,hv⟩:=A71 hi
 obtain ⟨R',h1,_,h3⟩:=h.ent _ (List.mem_of_getElem? hv)
 have hk:kp R=kp R':=by
  have:=congrArg Prod.fst h3
  simpa using this
 have hr:=B92 (by omega) hk
 subst hr
 have hv2:=congrArg Prod.snd h3
 simp only at hv2
 unfold A6c
 rw [hi]; simp [hv,hv2]
theorem B5D {k:MKey} {z:MV} (h:A9Y M k=false):A6c M k z=z:=by
 unfold A9Y at h
 unfold A6c
 cases hi:mIdx M k with
 | none=>rfl
 | some i=>rw [hi] at h; cases h
theorem B0l {k:MKey} (h:mIdx M k=none):k∉M.map (·.1):=fun hk=>by
 unfold mIdx at h
 rw [List.findIdx?_eq_none_iff] at h
 obtain ⟨e,he,rfl⟩:=List.mem_map.1 hk
 have:=h e he
 simp at this
theorem MOk.snoc (h:MOk n es N M) {R:List Int} (hR:R.length=n) (hx: ∀x,x∈R→0≤x∧x≤N) (hn:mIdx M (.ints (kp R))=none):MOk n es N (M++[(.ints (kp R),.c (.int .i64 (rkD n (mulE es) fun v=>R.getD v 0)))]):=by
 refine ⟨fun e he=> ?_,?_⟩
 ·rcases List.mem_append.1 he with he | he
  ·exact h.ent e he
  ·rw [List.mem_singleton] at he; exact ⟨R,hR,hx,he⟩
 ·rw [List.map_append,List.nodup_append]
  refine ⟨h.nd,by simp,fun a ha b hb=> ?_⟩
  rw [List.map_singleton,List.mem_singleton] at hb
  subst hb
  intro e; rw [e] at ha
  exact B0l hn ha
theorem MOk.room (h:MOk n es N M) {R:List Int} (hR:R.length=n) (hx: ∀x,x∈R→0≤x∧x≤N) (hn:A9Y M (.ints (kp R))=false):M.length<(N+1)^n:=by
 have hn':mIdx M (.ints (kp R))=none:=by
  unfold A9Y at hn
  cases hi:mIdx M (.ints (kp R)) with
  | none=>rfl
  | some i=>rw [hi] at hn; cases hn
 have:=(h.snoc hR hx hn').len
 rw [List.length_append,List.length_singleton] at this
 omega
theorem MOk.put (h:MOk n es N M) {R:List Int} (hR:R.length=n) (hx: ∀x,x∈R→0≤x∧x≤N):MOk n es N (B4o M (.ints (kp R)) (.c (.int .i64 (rkD n (mulE es) fun v=>R.getD v 0)))):=by
 unfold B4o
 cases hi:mIdx M (.ints (kp R)) with
 | none=>exact h.snoc hR hx hi
 | some i=>
  have hh:A9Y M (.ints (kp R))=true:=by unfold A9Y; rw [hi]; rfl
  have hv:=h.val hR (z:= .c (.int .i64 0)) hh
  obtain ⟨v,hg⟩:=A71 hi
  unfold A6c at hv
  rw [hi] at hv
  simp only [Option.bind_some,hg,Option.map_some,Option.getD_some] at hv
  rw [←hv]
  have:M.set i (.ints (kp R),v)=M:=by
   apply List.ext_getElem?
   intro j
   rw [List.getElem?_set]
   by_cases e:i=j
   ·subst e
    rw [if_pos rfl,if_pos (List.getElem?_eq_some_iff.1 hg).1,hg]
   ·rw [if_neg e]
  simp only [this]
  exact h
theorem B93 {R:List Int} (hR:R.length≤12) (hx: ∀x,x∈R→0≤x∧x≤2^40):(KShape.ints 12).ok (.ints (kp R))=true:=by
 simp only [KShape.ok,Bool.and_eq_true,beq_iff_eq,List.all_eq_true,decide_eq_true_eq]
 refine ⟨B7I hR,fun x hxm=> ?_⟩
 unfold kp at hxm
 rcases List.mem_append.1 hxm with h | h
 ·have:=hx x h; omega
 ·have:=(List.mem_replicate.1 h).2; omega
theorem MOk.keys (h:MOk n es N M) (hn:n≤12) (hN:(N:Int)≤2^40): ∀e,e∈M→(KShape.ints 12).ok e.1=true:=fun e he=>by
 obtain ⟨R,h1,h2,rfl⟩:=h.ent e he
 exact B93 (by omega) fun x hx=>by have:=h2 x hx; omega
end
theorem B7g {R:List Int} (h:R.length≤12):setMany (iC (List.replicate 12 0)) 0 (iC R)=iC (kp R):=by
 have:=B9g [] R (12-R.length)
 rw [show R.length+(12-R.length)=12 by omega] at this
 simpa [kp] using this
noncomputable def B1W (n:Nat) (es:List E) (R:List Int) (deg:Int):Nat→Int
 | 0=>deg
 | k+1=>min (B1W n es R deg k) (rkD n (mulE es) (fun v=>(R.set k (R.getD k 0-1)).getD v 0)+1)
theorem B0V {R:List Int} {n k:Nat} (hR:R.length=n) (hk:k<n) (v:Nat):(R.set k (R.getD k 0-1)).getD v 0=A41 (fun v=>R.getD v 0) k v:=by
 rw [A0Z _ _ _ _ (by omega)]
 unfold A41
 by_cases e:v=k
 ·rw [if_pos e,if_pos e,e]
 ·rw [if_neg e,if_neg e,Int.sub_zero]
theorem B82 {n:Nat} {es:List E} (hM:Mult n (mulE es)) (h0:0<n) {R:List Int} (hR:R.length=n) (hw:win n (mulE es) fun v=>R.getD v 0):B1W n es R (sumD R n) n=rkD n (mulE es) fun v=>R.getD v 0:=by
 obtain ⟨h1,v0,hv0,h2⟩:=B5d hM h0 hw
 have hc: ∀k,k<n→rkD n (mulE es) (fun v=>(R.set k (R.getD k 0-1)).getD v 0)=rkD n (mulE es) (A41 (fun v=>R.getD v 0) k):=fun k hk=>A6Z hM h0 fun v _=>B0V hR hk v
 have hd:rkD n (mulE es) (fun v=>R.getD v 0)≤sumD R n:=B24 hM h0 ((A8H hM h0).2 hw)
 have lo: ∀k,k≤n→rkD n (mulE es) (fun v=>R.getD v 0)≤B1W n es R (sumD R n) k:=fun k=>by
  induction k with
  | zero=>intro _; exact hd
  | succ k ih=>intro hk; simp only [B1W]; have:=ih (by omega); have:=h1 k (by omega); rw [hc k (by omega)]; omega
 have up: ∀k,k≤n→v0<k→B1W n es R (sumD R n) k≤rkD n (mulE es) (fun v=>R.getD v 0):=fun k=>by
  induction k with
  | zero=>intro _ h; omega
  | succ k ih=>
   intro hk hv
   simp only [B1W]
   by_cases e:v0=k
   ·rw [hc k (by omega),←e]; omega
   ·have:=ih (by omega) (by omega); omega
 have:=lo n (Nat.le_refl _)
 have:=up n (Nat.le_refl _) hv0
 omega
theorem B2G {n:Nat} {es:List E} {R:List Int} {deg:Int} (hd:0≤deg): ∀k,0≤B1W n es R deg k∧B1W n es R deg k≤deg
 | 0=>⟨hd,Int.le_refl _⟩
 | k+1=>by
  have:=B2G (n:=n) (es:=es) (R:=R) hd k
  have:=A42 (n:=n) (M:=mulE es) fun v=>(R.set k (R.getD k 0-1)).getD v 0
  simp only [B1W]; omega
theorem inB {B X:List Blk} {m:Nat} (hB: ∀b,b∈B→ ∀m,blkIn m b) (hX: ∀b,b∈X→blkIn m b):A1u m (B++X):=fun b hb=>by
 rcases List.mem_append.1 hb with hb | hb
 ·exact hB b hb m
 ·exact hX b hb
structure RkC (n:Nat) (es:List E) (G B0:Int) (N:Nat):Prop where
 g:Gok n es
 gen:2*G=twoE n (mulE es)-2*n+2
 gb: -(2^20)≤G∧G≤2^20
 b1:1≤B0
 b2:2*G-2≤B0
 N1:2*G-2≤N
 N2:(N:Int)≤2^20
 lim:(N+1)^n≤16384
 pw: ∃Z:Int,1≤Z∧sizeE es≤Z∧powZ Z B0 (n-1)+n*(n*B0)≤1048576
theorem RkC.dok {n:Nat} {es:List E} {G B0:Int} {N:Nat} (c:RkC n es G B0 N) {d:List Int} (hd:d.length=n) (hb:bndL B0 d):Dok n es d:=by
 obtain ⟨Z,z1,z2,z3⟩:=c.pw
 have h1:=c.b1
 have hn:(1:Int)≤n:=by have:=c.g.h1; omega
 have hnb:0≤(n:Int)*B0:=Int.mul_nonneg (by omega) (by omega)
 refine ⟨hd,B0,Z,n*B0,by omega,hb,z1,z2,?_,?_,z3⟩
 ·rw [←A1E]
  exact A1y fun v _=>by have:=hb v; omega
 ·have:1*((n:Int)*B0)≤n*(n*B0):=Int.mul_le_mul_of_nonneg_right hn hnb
  omega
end Go.Proofs.Ytdhfgihnoimoaaa
