/- A part of the proof. -/
import Derived.Test.YtdhfgihnoimoaaaPart37
import Derived.Test.YtdhfgihnoimoaaaLayerC
import Derived.Test.YtdhfgihnoimoaaaPart15
import Derived.Test.YtdhfgihnoimoaaaPart32
import Derived.Test.YtdhfgihnoimoaaaLayerE
import Derived.Test.YtdhfgihnoimoaaaLayerD
set_option linter.all false
set_option maxHeartbeats 4000000
set_option maxRecDepth 100000
namespace Go.Proofs.Ytdhfgihnoimoaaa
open Go.Sp
def A7k (a b:List Int) (n i:Nat):List Int:=(List.range n).map fun v=>if v<i then a.getD v 0-b.getD v 0 else 0
theorem A4O (a b:List Int) (n i:Nat):(A7k a b n i).length=n:=by simp [A7k]
theorem B2M (a b:List Int) (n i v:Nat):(A7k a b n i)[v]? =if v<n then some (if v<i then a.getD v 0-b.getD v 0 else 0) else none:=by
 unfold A7k
 rw [List.getElem?_map]
 by_cases h:v<n
 ·rw [if_pos h,List.getElem?_range h]; rfl
 ·rw [if_neg h,List.getElem?_eq_none (by simpa using h)]; rfl
theorem B2N (a b:List Int) {n i:Nat} (hi:i<n):(A7k a b n i).set i (a.getD i 0-b.getD i 0)=A7k a b n (i+1):=by
 apply List.ext_getElem?
 intro j
 rw [List.getElem?_set,A4O,B2M,B2M]
 by_cases e:i=j
 ·subst e
  rw [if_pos rfl,if_pos hi,if_pos hi,if_pos (by omega)]
 ·rw [if_neg e]
  by_cases h:j<n
  ·rw [if_pos h,if_pos h]
   by_cases h2:j<i
   ·rw [if_pos h2,if_pos (by omega)]
   ·rw [if_neg h2,if_neg (by omega)]
  ·rw [if_neg h,if_neg h]
theorem B0P (a b:List Int) (n:Nat):A7k a b n 0=List.replicate n 0:=by
 apply List.ext_getElem
 ·simp [A7k]
 ·intro i h1 h2; simp [A7k]
theorem B80 (x y:Int) (h: -(2^40)≤x∧x≤2^40) (h': -(2^40)≤y∧y≤2^40):ACall Try.prog 70 [A0g x,A0g y] (A0g (x-y)):=by
 refine ACall.of_body Try.func70 rfl (by kernel_rfl) ?_
 simp only [entry,Try.ntmps70,A0g]
 refine zU ?_
 refine zR trivial trivial trivial ?_
 simp [A0E,A0C,Blk.cells,ty,Try.results70,A0y,A05,toT,A0e,A0c,A0d,A0a,A0g]
theorem B5C (a b:List Int) (n:Nat) (h1:1≤n) (h12:n≤12) (ha:a.length=n) (hb:b.length=n) (ha1:bndL 1048576 a) (hb1:bndL 1048576 b) (hs: ∀v,v<n→ -1048576≤a.getD v 0-b.getD v 0∧a.getD v 0-b.getD v 0≤1048576):
  ACallH Try.prog 69 [] [.c (.slice (A0p a) .none),.c (.slice (A0p b) .none),.c (.fn 70 [])] [.box (iC (A7k a b n n))] (.tup [.c (.ref 0 1 0 n n),.c (.int .i64 0)]):=by
 have hO:=B7G [a,b] n h1 h12 (by show 2<2^20; decide) (fun x hx=>by
  simp only [List.mem_cons,List.not_mem_nil,or_false] at hx
  rcases hx with rfl | rfl
  ·exact ⟨ha,ha1⟩
  ·exact ⟨hb,hb1⟩)
 simp only [A1c,List.map_cons,List.map_nil] at hO
 have hnI:(0:Int)≤(n:Int):=by omega
 refine ACallH.of_body Try.func69 rfl (by kernel_rfl) ?_
 simp only [entry,Try.ntmps69,List.length_cons,List.length_nil,Nat.reduceAdd,Nat.reduceSub,List.replicate_succ,List.replicate_zero,List.cons_append,List.nil_append]
 repeat' ((fail_if_success (with_reducible refine AWp.atSeq 6 ?_));(fail_if_success (with_reducible refine AWp.atLast 6 ?_));first|((first|(refine zT ?_;intro K' hK')|(refine zG ?_ ?_<;>(try refine zH ?_)<;>intro hguard<;>(try exact zX)<;>try intro K' hK'))<;>((try simp+contextual only [go_sem,A0f,ha,A1R,A0F,List.length_replicate,Int.toNat_natCast,Nat.mul_one,Nat.zero_add,List.length_cons,List.length_nil,chunks,List.range,List.range.loop]);(repeat' first|(with_reducible refine hK' _ _ ?_;clear hK' K')|(with_reducible refine zK hO ?_;try simp+contextual only [go_sem,A0f,ha,A1R,A0F,List.length_replicate,Int.toNat_natCast,Nat.mul_one,Nat.zero_add,List.length_cons,List.length_nil,chunks,List.range,List.range.loop])|exact zY|with_reducible refine And.intro ?_ ?_|(with_reducible intro hpath;try exact zP)|(refine hK' _ _ ?_;clear hK' K')|fail);try refine zS ?_))|(refine zE ?_;refine hK _ _ ?_;clear hK K)|(refine zN ?_;try refine zS ?_)|refine zA ?_|(refine zB ?_;intro K hK)|(refine zC ?_ ?_<;>(try refine zH ?_)<;>intro hcond<;>try exact zX)|fail)
 rw [←B0P a b n]
 refine AWp.loopS (α:=Nat) 47 (fun i=>[(0,.c (.slice (A0p a) .none)),(1,.c (.slice (A0p b) .none)),(2,.c (.fn 70 [])),(9,.c (.ref 0 1 0 n n)),(22,.c (.int .i64 (n:Int))),(23,.c (.int .i64 (i:Int)))]) (fun i=>[.box (iC (A7k a b n i))]) (fun i=>i≤n) (fun i=>n-i) (0) (hk:=A0s.headL 1 47 [0,1,2,9,22,23] (zV3 @A0o @A0j @A0r)) (h0:=?_) (round:=fun i hI=>?_)
 ·exact Nat.zero_le _
 ·have hi:i≤n:=hI
  clear hI
  by_cases hil:i<n
  ·have hiI:(i:Int)<(n:Int):=by omega
   have ga:=A0P (A0u (d:=a) (i:=i) (by omega))
   have gb:=A0P (A0u (d:=b) (i:=i) (by omega))
   have hF:=B80 (a.getD i 0) (b.getD i 0) (by have:=ha1 i; omega) (by have:=hb1 i; omega)
   have hw:=A61 (a.getD i 0-b.getD i 0) (hs i hil)
   have hns:=B2N a b hil
   have hnl:=A4O a b n i
   have hst:=A2z (A7k a b n i) i (a.getD i 0-b.getD i 0)
   rw [hns] at hst
   have hl1:=A4O a b n (i+1)
   have hg2:(iC (A7k a b n (i+1)))[i]? =some (.int .i64 (a.getD i 0-b.getD i 0)):=by rw [←hst]; exact List.getElem?_set_self (by rw [A0F,hnl]; exact hil)
   clear hns hs ha1 hb1 hO
   generalize hn1:A7k a b n (i+1)=N1 at*
   generalize A7k a b n i=N0 at*
   generalize a.getD i 0=x at*
   generalize b.getD i 0=y at*
   refine zR (zc @hiI (zc @ga (zc @gb (zc @hst (zc @hg2 (zc @hnl (zc @hl1 (zc @A0F (zc @A0f (zc @ha (zc @hb (zc @Nat.zero_add trivial)))))))))))) (zc hF (zc hw trivial)) trivial ?_
   refine ⟨i+1,A0s.headF 1 47 [0,1,2,9,22,23] (zc @hn1 trivial) (zV3 @A0o @A0j @A0r),?_,?_⟩
   ·exact hil
   ·omega
  ·have hnl: ¬(i:Int)<(n:Int):=by omega
   have ei:i=n:=by omega
   rw [ei]
   rw [ei] at hnl
   refine zR (zc @hnl trivial) trivial trivial ?_
   simp [A2W,A1M,A0y,A1L,Try.results69]
theorem B9q (a b:List Int) (n:Nat) (h1:1≤n) (h12:n≤12) (ha:a.length=n) (hb:b.length=n) (ha1:bndL 1048576 a) (hb1:bndL 1048576 b) (hs: ∀v,v<n→ -1048576≤a.getD v 0-b.getD v 0∧a.getD v 0-b.getD v 0≤1048576):
  ACall Try.prog 47 [A0m a,A0m b] (.tup [A0m (A7k a b n n),A0g 0]):=by
 have hE:=B5C a b n h1 h12 ha hb ha1 hb1 hs
 have hl:=A4O a b n n
 generalize A7k a b n n=d at*
 have hbi: ∀(H:List Blk) (k:IntKind) (x:Int),A0e H (.int k x)=some (.int k x):=fun _ _ _=>rfl
 have hr0:A0e [.box (iC d)] (.ref 0 1 0 n n)=some (.slice (A0p d)):=A4X hl rfl
 refine ACall.of_body Try.func47 rfl (by kernel_rfl) ?_
 simp only [entry,Try.ntmps47,A0m]
 refine zU ?_
 refine zJ trivial trivial trivial (zc hE trivial) trivial ?_
 simp [A0E,A0C,Try.results47,A0y,A05,toT,hr0,hbi,A0m,A0g]
theorem B5D {n:Nat} {es:List E} (g:Gok n es) (ls:List (List Int)) (hll:ls.length<2^20) (hls: ∀d,d∈ls→d.length=n∧bndL 1048576 d):ACall Try.prog 64 [tG ⟨(n:Int),es⟩,.t (.slice (A1c ls))] (A0g 0):=by
 have h1:=g.h1
 have h12:=g.h12
 have hC:ACall Try.prog 60 [tG ⟨(n:Int),es⟩] (.tup [A09 true,A0g 0]):=by
  have h:=g.hl
  have:=A3n ⟨(n:Int),es⟩ (by show es.length<2^30; omega)
  rw [g.hc,g.hcc] at this
  exact this
 refine ACall.of_body Try.func64 rfl (by kernel_rfl) ?_
 simp only [entry,Try.ntmps64,tG,A0g]
 refine zU ?_
 refine zJ (stop 7) (zc @A1l trivial) (zc hC trivial) trivial trivial ?_
 refine AWp.loopS (α:=Nat) 34 (fun i=>[(2,.c (.ptr 0 0)),(20,.c (.slice (A1c ls) .none)),(21,.c (.int .i64 (ls.length:Int))),(22,.c (.int .i64 (i:Int)))]) (fun i=>[.box [.int .i64 (n:Int),.slice (A0b es) .none]]) (fun i=>i≤ls.length) (fun i=>ls.length-i) (0) (hk:=A0s.headL 1 34 [2,20,21,22] (zV3 @A0o @A0j @A0r)) (h0:=?_) (round:=fun i hI=>?_)
 ·exact Nat.zero_le _
 ·have hi:i≤ls.length:=hI
  clear hI
  by_cases hil:i<ls.length
  ·have hiI:(i:Int)<(ls.length:Int):=by omega
   have hge:=List.getElem?_eq_getElem hil
   have hg:=A2F hge
   obtain ⟨d1,d2⟩:=hls _ (List.mem_of_getElem? hge)
   generalize ls[i]=d at*
   have hChk:=A47 d n h1 h12 d1 d2
   refine zR (zc @hiI (zc @hg (zc @A1l (zc @Nat.zero_add trivial)))) (zc hChk trivial) trivial ?_
   refine ⟨i+1,A0s.headN 1 34 [2,20,21,22] (zV3 @A0o @A0j @A0r),?_,?_⟩
   ·exact hil
   ·omega
  ·have hnl: ¬(i:Int)<(ls.length:Int):=by omega
   refine zR (zc @hnl trivial) trivial trivial ?_
   simp [A0E,A0C,Blk.cells,ty,Try.results64,A0y,A05,toT,A0e,A0c,A0d,A0a,A0g]
theorem B9r:Try.prog.keyTypeAt 3 117=true:=by kernel_rfl
theorem B9s:Try.prog.tiled 3 117=true:=by kernel_rfl
theorem B7e:(match Try.prog.underlying 117 with | some (.array _ _) | some (.struct _)=>true | _=>false)=true:=by kernel_rfl
set_option maxRecDepth 100000 in
theorem B5E:KeyLaw Try.prog 117 (.ints 12):=
 B11 (m:=3) (by decide) B9r B9s B7e (B6t (it:=3) (by kernel_rfl) (by kernel_rfl) (by kernel_rfl) (by kernel_rfl) (by kernel_rfl) (of_decide_eq_true (by kernel_rfl)))
theorem B81:A9f Try.prog 114=some (117,3):=by simp only [ty]
def kp (R:List Int):List Int:=R++List.replicate (12-R.length) 0
theorem B7H {R:List Int} (h:R.length≤12):(kp R).length=12:=by unfold kp; rw [List.length_append,List.length_replicate]; omega
theorem B9t {R R':List Int} (hl:R.length=R'.length) (h:kp R=kp R'):R=R':=by
 unfold kp at h
 exact (List.append_inj h hl).1
theorem B7f (l:List Int):(iC l).mapM Go.Sp.intOf=some l:=by
 induction l with
 | nil=>rfl
 | cons x l ih=>unfold iC at ih ⊢; rw [List.map_cons,List.mapM_cons,ih]; rfl
structure MOk (n:Nat) (es:List E) (N:Nat) (M:List (MKey×MV)):Prop where
 ent: ∀e,e∈M→ ∃R:List Int,R.length=n∧(∀x,x∈R→0≤x∧x≤N)∧e=(.ints (kp R),.c (.int .i64 (rkD n (mulE es) fun v=>R.getD v 0)))
 nd:(M.map (·.1)).Nodup
theorem MOk.nil (n:Nat) (es:List E) (N:Nat):MOk n es N []:=⟨fun e he=>(by cases he),List.nodup_nil⟩
section
variable {n:Nat} {es:List E} {N:Nat} {M:List (MKey×MV)}
theorem MOk.len (h:MOk n es N M):M.length≤(N+1)^n:=by
 have:=List.Nodup.length_le_of_subset h.nd (l₂:=(B7F n N).map fun R=>MKey.ints (kp R)) (fun k hk=>by
  obtain ⟨e,he,rfl⟩:=List.mem_map.1 hk
  obtain ⟨R,h1,h2,rfl⟩:=h.ent e he
  exact List.mem_map.2 ⟨R,B2J h1 h2,rfl⟩)
 rwa [List.length_map,List.length_map,B2I] at this
theorem MOk.val (h:MOk n es N M) {R:List Int} (hR:R.length=n) {z:MV} (hh:A9S M (.ints (kp R))=true):A6f M (.ints (kp R)) z= .c (.int .i64 (rkD n (mulE es) fun v=>R.getD v 0)):=by
 unfold A9S at hh
 obtain ⟨i,hi⟩:=Option.isSome_iff_exists.1 hh
 obtain ⟨v,hv⟩:=A72 hi
 obtain ⟨R',h1,_,h3⟩:=h.ent _ (List.mem_of_getElem? hv)
 have hk:kp R=kp R':=by
  have:=congrArg Prod.fst h3
  simpa using this
 have hr:=B9t (by omega) hk
 subst hr
 have hv2:=congrArg Prod.snd h3
 simp only at hv2
 unfold A6f
 rw [hi]; simp [hv,hv2]
theorem B5F {k:MKey} {z:MV} (h:A9S M k=false):A6f M k z=z:=by
 unfold A9S at h
 unfold A6f
 cases hi:mIdx M k with
 | none=>rfl
 | some i=>rw [hi] at h; cases h
theorem B0f {k:MKey} (h:mIdx M k=none):k∉M.map (·.1):=fun hk=>by
 unfold mIdx at h
 rw [List.findIdx?_eq_none_iff] at h
 obtain ⟨e,he,rfl⟩:=List.mem_map.1 hk
 have:=h e he
 simp at this
theorem MOk.snoc (h:MOk n es N M) {R:List Int} (hR:R.length=n) (hx: ∀x,x∈R→0≤x∧x≤N) (hn:mIdx M (.ints (kp R))=none):MOk n es N (M++[(.ints (kp R),.c (.int .i64 (rkD n (mulE es) fun v=>R.getD v 0)))]):=by
 refine ⟨fun e he=> ?_,?_⟩
 ·rcases List.mem_append.1 he with he | he
  ·exact h.ent e he
  ·rw [List.mem_singleton] at he; exact ⟨R,hR,hx,he⟩
 ·rw [List.map_append,List.nodup_append]
  refine ⟨h.nd,by simp,fun a ha b hb=> ?_⟩
  rw [List.map_singleton,List.mem_singleton] at hb
  subst hb
  intro e; rw [e] at ha
  exact B0f hn ha
theorem MOk.room (h:MOk n es N M) {R:List Int} (hR:R.length=n) (hx: ∀x,x∈R→0≤x∧x≤N) (hn:A9S M (.ints (kp R))=false):M.length<(N+1)^n:=by
 have hn':mIdx M (.ints (kp R))=none:=by
  unfold A9S at hn
  cases hi:mIdx M (.ints (kp R)) with
  | none=>rfl
  | some i=>rw [hi] at hn; cases hn
 have:=(h.snoc hR hx hn').len
 rw [List.length_append,List.length_singleton] at this
 omega
theorem MOk.put (h:MOk n es N M) {R:List Int} (hR:R.length=n) (hx: ∀x,x∈R→0≤x∧x≤N):MOk n es N (B4t M (.ints (kp R)) (.c (.int .i64 (rkD n (mulE es) fun v=>R.getD v 0)))):=by
 unfold B4t
 cases hi:mIdx M (.ints (kp R)) with
 | none=>exact h.snoc hR hx hi
 | some i=>
  have hh:A9S M (.ints (kp R))=true:=by unfold A9S; rw [hi]; rfl
  have hv:=h.val hR (z:= .c (.int .i64 0)) hh
  obtain ⟨v,hg⟩:=A72 hi
  unfold A6f at hv
  rw [hi] at hv
  simp only [Option.bind_some,hg,Option.map_some,Option.getD_some] at hv
  rw [←hv]
  have:M.set i (.ints (kp R),v)=M:=by
   apply List.ext_getElem?
   intro j
   rw [List.getElem?_set]
   by_cases e:i=j
   ·subst e
    rw [if_pos rfl,if_pos (List.getElem?_eq_some_iff.1 hg).1,hg]
   ·rw [if_neg e]
  simp only [this]
  exact h
theorem B9u {R:List Int} (hR:R.length≤12) (hx: ∀x,x∈R→0≤x∧x≤2^40):(KShape.ints 12).ok (.ints (kp R))=true:=by
 simp only [KShape.ok,Bool.and_eq_true,beq_iff_eq,List.all_eq_true,decide_eq_true_eq]
 refine ⟨B7H hR,fun x hxm=> ?_⟩
 unfold kp at hxm
 rcases List.mem_append.1 hxm with h | h
 ·have:=hx x h; omega
 ·have:=(List.mem_replicate.1 h).2; omega
theorem MOk.keys (h:MOk n es N M) (hn:n≤12) (hN:(N:Int)≤2^40): ∀e,e∈M→(KShape.ints 12).ok e.1=true:=fun e he=>by
 obtain ⟨R,h1,h2,rfl⟩:=h.ent e he
 exact B9u (by omega) fun x hx=>by have:=h2 x hx; omega
end
theorem B7g {R:List Int} (h:R.length≤12):setMany (iC (List.replicate 12 0)) 0 (iC R)=iC (kp R):=by
 have:=B8X [] R (12-R.length)
 rw [show R.length+(12-R.length)=12 by omega] at this
 simpa [kp] using this
noncomputable def B1Z (n:Nat) (es:List E) (R:List Int) (deg:Int):Nat→Int
 | 0=>deg
 | k+1=>min (B1Z n es R deg k) (rkD n (mulE es) (fun v=>(R.set k (R.getD k 0-1)).getD v 0)+1)
theorem B0Q {R:List Int} {n k:Nat} (hR:R.length=n) (hk:k<n) (v:Nat):(R.set k (R.getD k 0-1)).getD v 0=A5p (fun v=>R.getD v 0) k v:=by
 rw [A08 _ _ _ _ (by omega)]
 unfold A5p
 by_cases e:v=k
 ·rw [if_pos e,if_pos e,e]
 ·rw [if_neg e,if_neg e,Int.sub_zero]
theorem B82 {n:Nat} {es:List E} (hM:Mult n (mulE es)) (h0:0<n) {R:List Int} (hR:R.length=n) (hw:win n (mulE es) fun v=>R.getD v 0):B1Z n es R (sumD R n) n=rkD n (mulE es) fun v=>R.getD v 0:=by
 obtain ⟨h1,v0,hv0,h2⟩:=B8r hM h0 hw
 have hc: ∀k,k<n→rkD n (mulE es) (fun v=>(R.set k (R.getD k 0-1)).getD v 0)=rkD n (mulE es) (A5p (fun v=>R.getD v 0) k):=fun k hk=>B2B hM h0 fun v _=>B0Q hR hk v
 have hd:rkD n (mulE es) (fun v=>R.getD v 0)≤sumD R n:=B5k hM h0 ((B06 hM h0).2 hw)
 have lo: ∀k,k≤n→rkD n (mulE es) (fun v=>R.getD v 0)≤B1Z n es R (sumD R n) k:=fun k=>by
  induction k with
  | zero=>intro _; exact hd
  | succ k ih=>intro hk; simp only [B1Z]; have:=ih (by omega); have:=h1 k (by omega); rw [hc k (by omega)]; omega
 have up: ∀k,k≤n→v0<k→B1Z n es R (sumD R n) k≤rkD n (mulE es) (fun v=>R.getD v 0):=fun k=>by
  induction k with
  | zero=>intro _ h; omega
  | succ k ih=>
   intro hk hv
   simp only [B1Z]
   by_cases e:v0=k
   ·rw [hc k (by omega),←e]; omega
   ·have:=ih (by omega) (by omega); omega
 have:=lo n (Nat.le_refl _)
 have:=up n (Nat.le_refl _) hv0
 omega
theorem B2O {n:Nat} {es:List E} {R:List Int} {deg:Int} (hd:0≤deg): ∀k,0≤B1Z n es R deg k∧B1Z n es R deg k≤deg
 | 0=>⟨hd,Int.le_refl _⟩
 | k+1=>by
  have:=B2O (n:=n) (es:=es) (R:=R) hd k
  have:=A44 (n:=n) (M:=mulE es) fun v=>(R.set k (R.getD k 0-1)).getD v 0
  simp only [B1Z]; omega
theorem inB {B X:List Blk} {m:Nat} (hB: ∀b,b∈B→ ∀m,blkIn m b) (hX: ∀b,b∈X→blkIn m b):A1x m (B++X):=fun b hb=>by
 rcases List.mem_append.1 hb with hb | hb
 ·exact hB b hb m
 ·exact hX b hb
structure RkC (n:Nat) (es:List E) (G B0:Int) (N:Nat):Prop where
 g:Gok n es
 gen:2*G=twoE n (mulE es)-2*n+2
 gb: -(2^20)≤G∧G≤2^20
 b1:1≤B0
 b2:2*G-2≤B0
 N1:2*G-2≤N
 N2:(N:Int)≤2^20
 lim:(N+1)^n≤16384
 pw: ∃Z:Int,1≤Z∧sizeE es≤Z∧powZ Z B0 (n-1)+n*(n*B0)≤1048576
theorem RkC.dok {n:Nat} {es:List E} {G B0:Int} {N:Nat} (c:RkC n es G B0 N) {d:List Int} (hd:d.length=n) (hb:bndL B0 d):Dok n es d:=by
 obtain ⟨Z,z1,z2,z3⟩:=c.pw
 have h1:=c.b1
 have hn:(1:Int)≤n:=by have:=c.g.h1; omega
 have hnb:0≤(n:Int)*B0:=Int.mul_nonneg (by omega) (by omega)
 refine ⟨hd,B0,Z,n*B0,by omega,hb,z1,z2,?_,?_,z3⟩
 ·rw [←A1H]
  exact A1s fun v _=>by have:=hb v; omega
 ·have:1*((n:Int)*B0)≤n*(n*B0):=Int.mul_le_mul_of_nonneg_right hn hnb
  omega
end Go.Proofs.Ytdhfgihnoimoaaa
