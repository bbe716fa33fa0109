/- A part of the proof. -/
import Derived.Test.YtdhfgihnoimoaaaLayerC
import Derived.Test.YtdhfgihnoimoaaaPart16
import Derived.Test.YtdhfgihnoimoaaaPart08
import Derived.Test.YtdhfgihnoimoaaaLayerB
import Derived.Test.YtdhfgihnoimoaaaPart06
import Derived.Test.YtdhfgihnoimoaaaPart15
import Derived.Test.YtdhfgihnoimoaaaLayerD
set_option linter.all false
set_option maxHeartbeats 4000000
set_option maxRecDepth 100000
namespace Go.Proofs.Ytdhfgihnoimoaaa
open Go.Sp
theorem A4c {m:Nat} {F:List Nat}:Go.Sp.cellsIn m (fC F):=A01 fun _=>True.intro
def tF (F:List Nat):TVal:= .agg (fT F)
theorem B9c (F:List Nat):(fT F).map A0x=fC F:=by simp [fT,fC,A0x]
theorem A7f (Z F:List Nat) (h:Z.length=F.length):setMany (fC Z) 0 (fC F)=fC F:=by
 apply List.ext_getElem?
 intro i
 rw [A3E _ _ _ _ (by simp [A2q,h])]
 by_cases hi:i<F.length
 ·rw [if_pos ⟨Nat.zero_le _,by rw [A2q]; omega⟩,Nat.sub_zero]
 ·rw [if_neg (by rw [A2q]; omega),List.getElem?_eq_none (by rw [A2q]; omega),List.getElem?_eq_none (by rw [A2q]; omega)]
theorem A7W: ∀F:List Nat,A3I (fC F)=true
 | []=>rfl
 | _::F=>A7W F
theorem A7X (H:List Blk): ∀F:List Nat,(fC F).mapM (A0e H)=some (fT F)
 | []=>rfl
 | x::F=>by
  have ih:=A7X H F
  simp only [fC,fT,List.map_cons,List.mapM_cons] at ih ⊢
  rw [ih]; rfl
theorem B5g:ACall Try.prog 118 [] (tF (List.range 12)):=by
 refine ACall.of_body Try.func118 rfl (by kernel_rfl) ?_
 simp only [entry,Try.ntmps118]
 refine zU ?_
 refine zR trivial trivial trivial ?_
 refine AWp.loopS (α:=Nat) 11 (fun i=>[(0,.c (.ptr 0 0)),(1,.c (.ptr 1 0)),(3,.c (.int .i64 (i:Int)))]) (fun i=>[.box (fC (List.replicate 12 0)),.box (fC (A7N i))]) (fun i=>i≤12) (fun i=>12-i) (0) (hk:=A0s.headL 2 11 [0,1,3] (zV @A4c)) (h0:=?_) (round:=fun i hI=>?_)
 ·exact Nat.zero_le _
 ·by_cases hlt:i<12
  ·have hset:=B00 hlt
   have hlen:=B01 hI
   generalize A7N i=F at*
   refine zR (zc @A2q (zc @hlen (zc @B0y (zc @A7M (zc @hset trivial))))) trivial trivial ?_
   refine ⟨i+1,A0s.headN 2 11 [0,1,3] (zV @A4c),?_,?_⟩
   ·exact hlt
   ·omega
  ·have ei:i=12:=by omega
   subst ei
   rw [B24]
   have hl:(List.range 12).length=12:=List.length_range
   generalize List.range 12=F at*
   have ht:(fC F).take 12=fC F:=List.take_of_length_le (by rw [A2q,hl]; exact Nat.le_refl _)
   have hs:=A7f (List.replicate 12 0) F (by simp [hl])
   have hlr:(List.replicate 12 0:List Nat).length=12:=by simp
   generalize List.replicate 12 0=Z at*
   refine zR (zc @A2q (zc @hl (zc @hlr (zc @ht (zc @hs (zc @A7W trivial)))))) trivial trivial ?_
   have hm:=A7X [Blk.box (fC F),Blk.box (fC F)] F
   simp [A0E,A0C,Blk.cells,ty,Try.results118,A0y,A05,toT,A0e,A0c,A0d,A0a,hm,hl,ht,A2q,tF]
theorem B6E (F:List Nat) (h:FOk F) (v:Nat) (hv:v<12):ACall Try.prog 120 [.t (.rptr (fT F)),A0g v] (A0g (rootF F 12 v)):=by
 have hF:=h.len
 refine ACall.of_body Try.func120 rfl (by kernel_rfl) ?_
 simp only [entry,Try.ntmps120,A0g]
 refine zU ?_
 refine zR trivial trivial trivial ?_
 refine AWp.loopS (α:=Nat) 18 (fun u=>[(0,.c (.rptr (fT F))),(1,.c (.int .i64 (u:Int)))]) (fun u=>[]) (fun u=>u<12∧rootF F 12 v=rootF F 12 u) (fun u=>u) (v) (hk:=A0s.headL 0 18 [0,1] (zV @A4c)) (h0:=?_) (round:=fun u hI=>?_)
 ·exact ⟨hv,rfl⟩
 ·obtain ⟨hu,hx⟩:=hI
  have hul:u<F.length:=by omega
  have e1:=B4N hul
  have e2:=A2I h hul
  have e3:=h.le u hul
  repeat' (first|((first|(refine zT ?_;intro K' hK')|(refine zG ?_ ?_<;>(try refine zH ?_)<;>intro hguard<;>(try exact zX)<;>try intro K' hK'))<;>((try simp+contextual only [go_sem,e1,Int.toNat_natCast,Nat.mul_one]);(repeat' first|(with_reducible refine hK' _ _ ?_;clear hK' K')|exact zY|with_reducible refine And.intro ?_ ?_|(with_reducible intro hpath;try exact zP)|(refine hK' _ _ ?_;clear hK' K')|fail);try refine zS ?_))|(refine zE ?_;refine hK _ _ ?_;clear hK K)|(refine zN ?_;try refine zS ?_)|refine zA ?_|(refine zB ?_;intro K hK)|(refine zC ?_ ?_<;>(try refine zH ?_)<;>intro hcond<;>try exact zX)|fail)
  ·rw [if_neg (by omega)] at e2
   refine ⟨F[u],A0s.headN 0 18 [0,1] (zV @A4c),?_,?_⟩
   ·exact ⟨by omega,by rw [hx,e2]⟩
   ·omega
  ·rw [if_pos (by omega)] at e2
   have e:rootF F 12 v=u:=by rw [hx,e2]
   simp [A0E,A0C,Blk.cells,ty,Try.results120,A0y,A05,toT,A0e,A0c,A0d,A0a,A0g,e]
theorem A6v (F:List Nat) (h:FOk F) (v:Nat) (hv:v<12) {H:List Blk} {id:Nat} (hb:H[id]? =some (.box (fC F))):
  ACallH Try.prog 120 H [.c (.ptr id 0),.c (.int .i64 (v:Int))] H (.c (.int .i64 (rootF F 12 v:Nat))):=
 ACall.hb (B6E F h v hv) (by simp [toT,A0e,A0c,hb,Blk.cells,B4O,A0a,A0g]) rfl
theorem B6F (F:List Nat) (h:FOk F) (a b:Nat) (ha:a<12) (hb:b<12) {H:List Blk} {id:Nat} (hid:H[id]? =some (.box (fC F))):
  ACallH Try.prog 119 H [.c (.ptr id 0),.c (.int .i64 (a:Int)),.c (.int .i64 (b:Int))] (H.set id (.box (fC (F.set (max (rootF F 12 a) (rootF F 12 b)) (min (rootF F 12 a) (rootF F 12 b)))))) (.tup []):=by
 have rx:=A6v F h a ha hid
 have ry:=A6v F h b hb hid
 have la:=A2x h (n:=12) ha
 have lb:=A2x h (n:=12) hb
 generalize rootF F 12 a=x at*
 generalize rootF F 12 b=y at*
 have hmax:max (x:Int) (y:Int)=((max x y:Nat):Int):=by omega
 have hmin:min (x:Int) (y:Int)=((min x y:Nat):Int):=by omega
 refine ACallH.of_body Try.func119 rfl (by kernel_rfl) ?_
 simp only [entry,Try.ntmps119,List.length_cons,List.length_nil,Nat.reduceAdd,Nat.reduceSub,List.replicate_succ,List.replicate_zero,List.cons_append,List.nil_append]
 refine zJ trivial (zc @A2q (zc @B0y (zc @A7M (zc @hmax (zc @hmin (zc @h.len (zc @hid trivial))))))) trivial (zc rx (zc ry trivial)) trivial ?_
 simp [A2W,A1M,A0y,A1L,Try.results119]
def A2c (es:List E):List (Int×Int):=es.map fun e=>(e.a,e.b)
theorem B1N {g:G} (hc:checkG g=0) {p:Int×Int} (h:p∈A2c g.es):(0≤p.1∧p.1<g.n)∧(0≤p.2∧p.2<g.n):=by
 obtain ⟨e,he,rfl⟩:=List.mem_map.1 h
 have:=(A02.1 hc).2.1 e he
 unfold okE at this
 simp only; omega
theorem A6w {g:G} (hc:checkG g=0):B4Y (A2c g.es):=fun p hp=>by
 have:=B1N hc hp
 have:=(A02.1 hc).1
 omega
def A42:List Nat:=List.replicate 12 0
theorem B3B:A42.length=12:=by simp [A42]
theorem B3C (g:G) (hc:checkG g=0) (hl:g.es.length<2^30):ACall Try.prog 101 [tG g] (tF (genS (A2c g.es)).1):=by
 have h12:=A6w hc
 obtain ⟨n,es⟩:=g
 simp only at h12 hl ⊢
 have hg:=B5g
 have hr12:(List.range 12).length=12:=List.length_range
 have h0:(genS ((A2c es).take 0)).1=List.range 12:=rfl
 refine ACall.of_body Try.func101 rfl (by kernel_rfl) ?_
 simp only [entry,Try.ntmps101,tG]
 refine zU ?_
 generalize hR:List.range 12=R at*
 have hof:(fT R).map A0x=fC R:=B9c R
 have hst:=A7f A42 R (by rw [hr12]; rfl)
 have hlz:A42.length=12:=B3B
 have hz:fC A42=[.int .i64 0,.int .i64 0,.int .i64 0,.int .i64 0,.int .i64 0,.int .i64 0,.int .i64 0,.int .i64 0,.int .i64 0,.int .i64 0,.int .i64 0,.int .i64 0]:=rfl
 rw [hz] at hst
 unfold tF at hg
 refine zR (zc @A06 (zc @A2q (zc @A7W (zc @hof (zc @hst (zc @hr12 trivial)))))) (zc hg trivial) trivial ?_
 rw [←h0]
 refine AWp.loopS (α:=Nat) 21 (fun i=>[(2,.c (.ptr 1 0)),(3,.c (.ptr 2 0)),(8,.c (.slice (A0b es) .none)),(9,.c (.int .i64 (es.length:Int))),(10,.c (.int .i64 (i:Int)))]) (fun i=>[.box [.int .i64 n,.slice (A0b es) .none],.box (fC A42),.box (fC (genS ((A2c es).take i)).1)]) (fun i=>i≤es.length) (fun i=>es.length-i) (0) (hk:=A0s.headL 3 21 [2,3,8,9,10] (zV @A4c)) (h0:=?_) (round:=fun i hI=>?_)
 ·exact Nat.zero_le _
 ·have hi:i≤es.length:=hI
  clear hI
  have hok:=B1C (l:=(A2c es).take i) fun q hq=>h12 q (List.mem_of_mem_take hq)
  by_cases hlt:i<es.length
  ·have hltI:(i:Int)<es.length:=by omega
   have e0:=List.getElem?_eq_getElem hlt
   have e1:=A2l e0
   have hp:(A2c es)[i]? =some (es[i].a,es[i].b):=by simp [A2c,e0]
   have hsn:=take_snoc hp
   have hnx:=A7L ((A2c es).take i) (es[i].a,es[i].b)
   rw [←hsn] at hnx
   have hrng:=h12 _ (List.mem_of_getElem? hp)
   generalize es[i]=x at*
   obtain ⟨xa,xb,xm⟩:=x
   simp only at hrng hnx e1
   obtain ⟨a,rfl⟩:=Int.eq_ofNat_of_zero_le hrng.1.1
   obtain ⟨b,rfl⟩:=Int.eq_ofNat_of_zero_le hrng.2.1
   have ha:a<12:=by omega
   have hb:b<12:=by omega
   have hF:=hok.1
   simp only [A1D,Int.toNat_natCast] at hnx
   have hn1:=congrArg Prod.fst hnx
   simp only at hn1
   generalize (genS ((A2c es).take i)).1=F at*
   have hJ:=B6F F hF a b ha hb (H:=[.box [.int .i64 n,.slice (A0b es) .none],.box (fC A42),.box (fC F),.box [.int .i64 (a:Int),.int .i64 (b:Int),.int .i64 xm]]) (id:=2) rfl
   rw [←hn1] at hJ
   simp only [List.set_cons_succ,List.set_cons_zero] at hJ
   refine zJ trivial (zc @hltI (zc @e1 (zc @A06 trivial))) trivial (zc hJ trivial) trivial ?_
   refine ⟨i+1,A0s.headN 3 21 [2,3,8,9,10] (zV @A4c),?_,?_⟩
   ·exact hlt
   ·omega
  ·have ei:i=es.length:=by omega
   subst ei
   have hnl: ¬((es.length:Int)<es.length):=by omega
   have htk:(A2c es).take es.length=A2c es:=List.take_of_length_le (by simp [A2c])
   rw [htk]
   rw [htk] at hok
   have hlF:=hok.1.len
   generalize (genS (A2c es)).1=F at*
   have ht:(fC F).take 12=fC F:=List.take_of_length_le (by rw [A2q,hlF]; exact Nat.le_refl _)
   have hs:=A7f A42 F (by rw [hlF]; rfl)
   generalize A42=Z at*
   refine zR (zc @hnl (zc @A2q (zc @hlF (zc @hlz (zc @ht (zc @hs (zc @A7W trivial))))))) trivial trivial ?_
   have hm:=A7X [Blk.box [.int .i64 n,.slice (A0b es) .none],Blk.box (fC F),Blk.box (fC F)] F
   simp [A0E,A0C,Blk.cells,ty,Try.results101,A0y,A05,toT,A0e,A0c,A0d,A0a,hm,hlF,ht,A2q,tF]
theorem B2A:A9f Try.prog 155=some (3,3):=by simp only [ty]
theorem B6G:A0J Try.prog 3=some (.int .i64 0):=by simp only [ty]
theorem A0O (F:List Nat) (v:Nat):(A1k F v).length=(A0N F v).length:=by simp [A1k]
theorem A28 {m b:Nat} {ls:List (List Int)} {n:Nat} (h:b+ls.length≤m):blkIn m (.box (chI b ls++List.replicate n .any)):=B7X (by simpa using h)
theorem B8p (b i:Nat) (ls:List (List Int)) (l:List Int) (R:List ACell) (h:i<ls.length):(chI b ls++R).set i (.slice (A0p l) (.chain (i+b)))=chI b (ls.set i l)++R:=by
 rw [List.set_append_left _ _ (by rw [A27]; exact h),B8b]
theorem B9d {b i:Nat} {ls:List (List Int)} {l:List Int} (R:List ACell) (h:ls[i]? =some l):(chI b ls++R).drop i= .slice (A0p l) (.chain (i+b))::(chI b ls++R).drop (i+1):=by
 have hl:=(List.getElem?_eq_some_iff.1 h).1
 rw [List.drop_append_of_le_length (by rw [A27]; omega),List.drop_append_of_le_length (by rw [A27]; omega),B60 h]; rfl
theorem B8q (b:Nat) (ls:List (List Int)) (l:List Int) (R:List ACell):(chI b ls++[ACell.nils]++R).set ls.length (.slice (A0p l) (.chain (ls.length+b)))=chI b (ls++[l])++R:=by
 rw [List.append_assoc,List.set_append_right _ _ (by rw [A27]; exact Nat.le_refl _),A27,Nat.sub_self]
 unfold chI
 rw [List.map_append,List.map_cons,List.map_nil,B20]
 simp
theorem B04 (b:Nat) (ls:List (List Int)) (R:List ACell):(chI b ls++[ACell.nils]++R).drop ls.length= .nils::R:=by
 rw [List.append_assoc,List.drop_append,A27,Nat.sub_self,List.drop_eq_nil_of_le (by rw [A27]; exact Nat.le_refl _)]; rfl
theorem B3D (b:Nat) (ls:List (List Int)) (R:List ACell):(chI b ls++[ACell.nils]++R)[ls.length]? =some .nils:=by
 have:=congrArg (·[0]?) (B04 b ls R)
 simpa using this
theorem B6H {b i:Nat} {ls:List (List Int)} {l:List Int} (R:List ACell) (h:ls[i]? =some l):(chI b ls++R)[i]? =some (.slice (A0p l) (.chain (i+b))):=by
 have hl:=(List.getElem?_eq_some_iff.1 h).1
 rw [List.getElem?_append_left (by rw [A27]; exact hl)]
 exact B8a h
theorem B6I (ls:List (List Int)) (l:List Int):chJ (ls++[l])=chJ ls++[.chain l.length 1]:=by
 unfold chJ; rw [List.map_append,List.map_cons,List.map_nil,B6o,A0f]
theorem B9e {j b:Nat} {ls:List (List Int)}: ∀c,c∈chI b ls→noJ j c=true:=B77
@[simp] theorem B9f (F:List Nat) (v:Nat):(chJ (A1k F v)).take (A0N F v).length=chJ (A1k F v):=A5F (by rw [A0O]; exact Nat.le_refl _)
theorem B5h {cs0:List ACell} {F:List Nat} (h0: ∀c,c∈cs0→noJ 3 c=true) {es:List (MKey×MV)} {b:Blk} {ps:List (List Int)}: ∀(i:Nat) blk,(Blk.box cs0:: .box (fC F):: .map es::b::chJ ps)[i]? =some blk→i≠3→noB 3 blk
 | 0,blk,h,_=>by simp at h; subst h; exact h0
 | 1,blk,h,_=>by
  simp at h; subst h
  intro c hc
  obtain ⟨n,_,rfl⟩:=List.mem_map.1 hc
  rfl
 | 2,blk,h,_=>by simp at h; subst h; trivial
 | 3,blk,h,hn=>absurd rfl hn
 | i+4,blk,h,_=>by
  have hm:=List.mem_of_getElem? (l:=chJ ps) (i:=i) (a:=blk) (by simpa using h)
  obtain ⟨r,_,rfl⟩:=List.mem_map.1 hm
  trivial
theorem B5i (F:List Nat) (hF:FOk F) (n:Nat) (h1:1≤n) (hn:n≤12) (cs0:List ACell) (hcs: ∀m,2≤m→blkIn m (.box cs0)) (hno: ∀c,c∈cs0→noJ 3 c=true):
  ACallH Try.prog 102 [.box cs0,.box (fC F)] [.c (.ptr 1 0),.c (.int .i64 (n:Int))] [.box cs0,.box (fC F)] (.c (.slice (A1c (A1k F n)) .none)):=by
 have hroot:=fun (v:Nat) (hv:v<12) (H:List Blk) (hH:H[1]? =some (.box (fC F)))=>A6v F hF v hv (id:=1) hH
 refine ACallH.of_body Try.func102 rfl (by kernel_rfl) ?_
 simp only [entry,Try.ntmps102,List.length_cons,List.length_nil,Nat.reduceAdd,Nat.reduceSub,List.replicate_succ,List.replicate_zero,List.cons_append,List.nil_append]
 repeat' (first|((first|(refine zT ?_;intro K' hK')|(refine zG ?_ ?_<;>(try refine zH ?_)<;>intro hguard<;>(try exact zX)<;>try intro K' hK'))<;>((try simp+contextual only [go_sem]);(repeat' first|(with_reducible refine hK' _ _ ?_;clear hK' K')|exact zY|with_reducible refine And.intro ?_ ?_|(with_reducible intro hpath;try exact zP)|(refine hK' _ _ ?_;clear hK' K')|fail);try refine zS ?_))|(refine zE ?_;refine hK _ _ ?_;clear hK K)|(refine zN ?_;try refine zS ?_)|refine zA ?_|(refine zB ?_;intro K hK)|(refine zC ?_ ?_<;>(try refine zH ?_)<;>intro hcond<;>try exact zX)|fail)
 refine AWp.weak (A0s.asVec 5 1 rfl rfl (by simp)) ?_
 simp only [List.length_cons,List.length_nil,List.set_cons_succ,List.set_cons_zero,List.cons_append,List.nil_append,Nat.zero_add]
 refine AWp.loopS (α:=(Nat×Nat)) 43 (fun s=>[(0,.c (.ptr 1 0)),(5,.c (.vec 3 (A0N F s.1).length s.2)),(6,.c (.map 2)),(10,.c (.int .i64 (n:Int))),(11,.c (.int .i64 (s.1:Int)))]) (fun s=>.box cs0:: .box (fC F):: .map (mR 0 (A0N F s.1)):: .box (chI 4 (A1k F s.1)++List.replicate (s.2-(A0N F s.1).length) .any)::chJ (A1k F s.1)) (fun s=>s.1≤n∧(A0N F s.1).length≤s.2) (fun s=>n-s.1) ((0,0)) (hk:=A0s.headL ((A0N F ((0,0)).1).length+4) 43 [0,5,6,10,11] (by (repeat' (first | exact A0q _ | exact A04 _ | exact A0l _ | refine And.intro ?_ ?_ | refine A0n ?_ ?_ | refine A0i ?_ ?_ | refine A0h ?_ ?_ | exact True.intro | exact A28 (by rw [A0O]; omega) | exact A4b | exact hcs _ (by omega) | exact A4c | (show _<_; omega) | exact A01 (fun _=>True.intro) | (intro c hc; cases hc; done) | (intro c hc; simp only [List.mem_cons,List.not_mem_nil,or_false] at hc; subst hc; first | exact True.intro | exact A28 (by rw [A0O]; omega) | exact A4b | exact hcs _ (by omega) | exact A4c | (show _<_; omega)) | (intro c hc; simp only [List.mem_cons,List.not_mem_nil,or_false] at hc; rcases hc with rfl | rfl<;>first | exact True.intro | exact A28 (by rw [A0O]; omega) | exact A4b | exact hcs _ (by omega) | exact A4c | (show _<_; omega)))))) (h0:=?_) (round:=fun s hI=>?_)
 ·exact ⟨Nat.zero_le _,Nat.le_refl _⟩
 ·obtain ⟨v,cap⟩:=s
  obtain ⟨hv,hcap⟩:=hI
  simp only at hv hcap ⊢
  by_cases hlt:v<n
  ·have hltI:(v:Int)<n:=by omega
   have hR:=hroot v (by omega) _ (show (Blk.box cs0:: .box (fC F):: .map (mR 0 (A0N F v)):: .box (chI 4 (A1k F v)++List.replicate (cap-(A0N F v).length) .any)::chJ (A1k F v))[1]? =some (.box (fC F)) from rfl)
   have hle:=A2x hF (n:=12) (v:=v) (by omega)
   have hkl:=B38 F v
   have hpl:=A0O F v
   by_cases hrv:rootF F 12 v=v
   ·rw [hrv] at hR
    have hnew:=B5c hF (by omega) hrv
    have hsucc:=A3R F v
    rw [if_pos hrv] at hsucc
    have hnm: ¬v∈A0N F v:=fun h=>by have:=(A4H.1 h).1; omega
    have hput:=B9a hnm
    have hnd:=A41 F (v+1)
    rw [hsucc] at hnd
    have hval:=B7A (k:=(A0N F v).length) (r:=v) hnd (by simp) (.c (.int .i64 0))
    generalize A0N F v=rs at*
    generalize A1k F v=ps at*
    repeat' (first|((with_reducible refine AWp.seq (AWp.of_reg (id:=9) (AReg.pre 1 (fun K hK=>?_))));simp only [List.take_succ_cons,List.take_zero])|((with_reducible refine AWp.of_reg (id:=9) (AReg.pre 1 (fun K hK=>?_)));simp only [List.take_succ_cons,List.take_zero])|((first|(refine zT ?_;intro K' hK')|(refine zG ?_ ?_<;>(try refine zH ?_)<;>intro hguard<;>(try exact zX)<;>try intro K' hK'))<;>((try simp+contextual only [go_sem,hltI,hput,A4Q]);(repeat' first|(with_reducible refine hK' _ _ ?_;clear hK' K')|((with_reducible first|refine ⟨_,_,hR,?_⟩|refine ⟨_,hR,?_⟩);try simp+contextual only [go_sem,hltI,hput,A4Q])|(refine ⟨_,B4I,rfl,A5L,?_⟩ ; simp+contextual only [go_sem,hltI,hput,A4Q])|exact zY|with_reducible refine And.intro ?_ ?_|(with_reducible intro hpath;try exact zP)|(refine hK' _ _ ?_;clear hK' K')|fail);try refine zS ?_))|(refine zE ?_;refine hK _ _ ?_;clear hK K)|(refine zN ?_;try refine zS ?_)|refine zA ?_|(refine zB ?_;intro K hK)|(refine zC ?_ ?_<;>(try refine zH ?_)<;>intro hcond<;>try exact zX)|fail)
    simp only [List.drop_succ_cons,List.drop_zero]
    refine AReg.nilRow (e:=27) (z:= .slice none 0 0) rfl rfl rfl (by simp only [ty]) (by simp only [ty]) (by simp only [ty]) rfl ?_
    refine AReg.grow (e:=27) (e2:=27) (by':=24) (z:= .slice none 0 0) (j:=3) (tr:= .raw (.slice none 0 0)) (tok:= .exact) (used:=chI 4 ps) rfl rfl rfl (by simp only [ty]) (by simp only [ty]) (by simp only [ty]) (by simp only [ty]) rfl (by simp only [ty]) rfl rfl (by rw [A27,hpl]) hcap (by simp) rfl (by omega) (by omega) (B5h hno) B9e (fun cap' hc'=> ?_)
    refine AReg.rest (fun K hK=> ?_)
    simp only [List.map_cons,List.map_nil,fgt,B6l,noJ,noK,A1u,List.set_cons_succ,List.set_cons_zero,cellOf,bne_self_eq_false,show ((1:Nat) != 3)=true from rfl,show ((2:Nat) != 3)=true from rfl,if_true,Bool.false_eq_true,if_false]
    have w1:=B04 4 ps (List.replicate (cap'-(rs.length+1)) .any)
    have w2:=B8q 4 ps [(v:Int)] (List.replicate (cap'-(rs.length+1)) .any)
    have w4:=B3D 4 ps (List.replicate (cap'-(rs.length+1)) .any)
    rw [hpl] at w1 w2 w4
    have w3:=B6I ps [(v:Int)]
    repeat' (first|(with_reducible refine AWp.seq_drawM B2A B4I B6G (by with_unfolding_all rfl) (by with_unfolding_all kernel_rfl) (fun K hK=>?_))|(with_reducible refine AWp.last_drawM B2A B4I B6G (by with_unfolding_all rfl) (by with_unfolding_all kernel_rfl) (fun K hK=>?_))|((first|(refine zT ?_;intro K' hK')|(refine zG ?_ ?_<;>(try refine zH ?_)<;>intro hguard<;>(try exact zX)<;>try intro K' hK'))<;>((try simp+contextual only [go_sem,hval,w1,w2,w4,chunks,List.range,List.range.loop,A4Q,Int.toNat_natCast]);(repeat' first|(with_reducible refine hK' _ _ ?_;clear hK' K')|(exact rfl)|(exact A5L)|(with_reducible exact A1w (by assumption))|exact zY|with_reducible refine And.intro ?_ ?_|(with_reducible intro hpath;try exact zP)|(refine hK' _ _ ?_;clear hK' K')|fail);try refine zS ?_))|(refine zE ?_;refine hK _ _ ?_;clear hK K)|(refine zN ?_;try refine zS ?_)|refine zA ?_|(refine zB ?_;intro K hK)|(refine zC ?_ ?_<;>(try refine zH ?_)<;>intro hcond<;>try exact zX)|fail)
    ·rw [A27,hpl,List.length_replicate]; omega
    ·have hl:(A0N F (v+1)).length=rs.length+1:=by rw [hsucc]; simp
     simp only [A0p,List.map_cons,List.map_nil] at w2
     rw [A9r,hpl,w2,←hnew,←hsucc,show chJ ps++[Blk.chain 1 1]=chJ (A1k F (v+1)) from by rw [hnew,w3]; rfl]
     have ht2:(chJ (A1k F (v+1))).take (rs.length+1)=chJ (A1k F (v+1)):=A5F (by rw [A0O,hl]; exact Nat.le_refl _)
     refine ⟨(v+1,cap'),A0s.headF ((A0N F ((v+1,cap')).1).length+4) 43 [0,5,6,10,11] (zc @hl (zc @ht2 trivial)) (by (repeat' (first | exact A0q _ | exact A04 _ | exact A0l _ | refine And.intro ?_ ?_ | refine A0n ?_ ?_ | refine A0i ?_ ?_ | refine A0h ?_ ?_ | exact True.intro | exact A28 (by rw [A0O]; omega) | exact A4b | exact hcs _ (by omega) | exact A4c | (show _<_; omega) | exact A01 (fun _=>True.intro) | (intro c hc; cases hc; done) | (intro c hc; simp only [List.mem_cons,List.not_mem_nil,or_false] at hc; subst hc; first | exact True.intro | exact A28 (by rw [A0O]; omega) | exact A4b | exact hcs _ (by omega) | exact A4c | (show _<_; omega)) | (intro c hc; simp only [List.mem_cons,List.not_mem_nil,or_false] at hc; rcases hc with rfl | rfl<;>first | exact True.intro | exact A28 (by rw [A0O]; omega) | exact A4b | exact hcs _ (by omega) | exact A4c | (show _<_; omega))))),?_,?_⟩
     ·exact ⟨hlt,by rw [hl]; exact hc'⟩
     ·simp only; omega
   ·obtain ⟨r,hr⟩: ∃r,rootF F 12 v=r:=⟨_,rfl⟩
    have hrlt:r<v:=by omega
    have hfix:=A7e hF (u:=v) (by omega)
    rw [hr] at hfix
    have hrr:=A40 hF (u:=r) (by omega) hfix
    have hmem:r∈A0N F v:=A4H.2 ⟨hrlt,hrr⟩
    obtain ⟨k,hk,hkr⟩:=List.mem_iff_getElem.1 hmem
    have hk':(A0N F v)[k]? =some r:=by rw [List.getElem?_eq_getElem hk,hkr]
    obtain ⟨e1,e2,e3⟩:=B5d hrv hk' hr
    have hval:=B7A (A41 F v) hk' (.c (.int .i64 0))
    rw [hr] at hR hrv
    have hrvI: ¬((r:Int)=v):=by omega
    have hplen:(A6V F v r).length≤v:=by
     unfold A6V
     rw [List.length_map]
     exact Nat.le_trans (List.length_filter_le _ _) (by simp)
    generalize A6V F v r=p at*
    have hkI:(k:Int)<(A0N F v).length:=by omega
    have g1:=B6H (b:=4) (List.replicate (cap-(A0N F v).length) .any) e2
    have g2:=B9d (b:=4) (List.replicate (cap-(A0N F v).length) .any) e2
    have g3:=B8c e2
    have g4:=B8p 4 k (A1k F v) (p++[(v:Int)]) (List.replicate (cap-(A0N F v).length) .any) (by omega)
    have g5:=B8d k (A1k F v) (p++[(v:Int)]) (n:=p.length+1) (by simp)
    rw [←e3] at g4 g5
    have hkc:k+1≤(A1k F v).length+(cap-(A0N F v).length):=by omega
    repeat' (first|(with_reducible refine AWp.seq_drawM B2A B4I B6G (by with_unfolding_all rfl) (by with_unfolding_all kernel_rfl) (fun K hK=>?_))|(with_reducible refine AWp.last_drawM B2A B4I B6G (by with_unfolding_all rfl) (by with_unfolding_all kernel_rfl) (fun K hK=>?_))|((first|(refine zT ?_;intro K' hK')|(refine zG ?_ ?_<;>(try refine zH ?_)<;>intro hguard<;>(try exact zX)<;>try intro K' hK'))<;>((try simp+contextual only [go_sem,hltI,hrvI,hkI,hval,g1,g2,g3,g4,g5,A27,A9r,hpl,hkc,A0f,A1G,chunks,List.range,List.range.loop,A4Q,Int.toNat_natCast,List.length_replicate]);(repeat' first|(with_reducible refine hK' _ _ ?_;clear hK' K')|((with_reducible first|refine ⟨_,_,hR,?_⟩|refine ⟨_,hR,?_⟩);try simp+contextual only [go_sem,hltI,hrvI,hkI,hval,g1,g2,g3,g4,g5,A27,A9r,hpl,hkc,A0f,A1G,chunks,List.range,List.range.loop,A4Q,Int.toNat_natCast,List.length_replicate])|(exact rfl)|(exact A5L)|(with_reducible exact A1w (by assumption))|exact zY|with_reducible refine And.intro ?_ ?_|(with_reducible intro hpath;try exact zP)|(refine hK' _ _ ?_;clear hK' K')|fail);try refine zS ?_))|(refine zE ?_;refine hK _ _ ?_;clear hK K)|(refine zN ?_;try refine zS ?_)|refine zA ?_|(refine zB ?_;intro K hK)|(refine zC ?_ ?_<;>(try refine zH ?_)<;>intro hcond<;>try exact zX)|fail)
    have ht2:(chJ (A1k F (v+1))).take (A0N F v).length=chJ (A1k F (v+1)):=A5F (by rw [A0O,e1]; exact Nat.le_refl _)
    refine ⟨(v+1,cap),A0s.headF ((A0N F ((v+1,cap)).1).length+4) 43 [0,5,6,10,11] (zc @e1 (zc @ht2 trivial)) (by (repeat' (first | exact A0q _ | exact A04 _ | exact A0l _ | refine And.intro ?_ ?_ | refine A0n ?_ ?_ | refine A0i ?_ ?_ | refine A0h ?_ ?_ | exact True.intro | exact A28 (by rw [A0O]; omega) | exact A4b | exact hcs _ (by omega) | exact A4c | (show _<_; omega) | exact A01 (fun _=>True.intro) | (intro c hc; cases hc; done) | (intro c hc; simp only [List.mem_cons,List.not_mem_nil,or_false] at hc; subst hc; first | exact True.intro | exact A28 (by rw [A0O]; omega) | exact A4b | exact hcs _ (by omega) | exact A4c | (show _<_; omega)) | (intro c hc; simp only [List.mem_cons,List.not_mem_nil,or_false] at hc; rcases hc with rfl | rfl<;>first | exact True.intro | exact A28 (by rw [A0O]; omega) | exact A4b | exact hcs _ (by omega) | exact A4c | (show _<_; omega))))),?_,?_⟩
    ·exact ⟨hlt,by rw [e1]; exact hcap⟩
    ·simp only; omega
  ·have ev:v=n:=by omega
   subst ev
   have hnl: ¬((v:Int)<v):=by omega
   have hpos:0<(A0N F v).length:=List.length_pos_iff.2 fun h=>by
    have h0:0∈A0N F v:=A4H.2 ⟨by omega,by have:=A2x hF (n:=12) (v:=0) (by omega); omega⟩
    rw [h] at h0; cases h0
   refine zJ (stop 12) (zc @hnl trivial) trivial trivial trivial ?_
   refine AWp.vecData 5 3 4 ((A1k F v).map A0p) rfl rfl hpos hcap (by rw [List.length_map,A0O]) (by simp) ?_
   rw [B8W]
   simp only [List.set_cons_succ,List.set_cons_zero]
   refine AWp.weak (A0s.head2 (m:=2) (by first | omega | simp) ((fun t f=>[f,f,f,f,f,t,f,f,f,f,f,f,f,f,f,f,f,f,f,f,f,f,f,f,f,f,f,f,f,f,f,f,f,f,f,f,f,f,f,f,f,f,f]) true false) rfl rfl (by (repeat' (first | exact A0q _ | exact A04 _ | exact A0l _ | refine And.intro ?_ ?_ | refine A0n ?_ ?_ | refine A0i ?_ ?_ | refine A0h ?_ ?_ | exact True.intro | exact A28 (by rw [A0O]; omega) | exact A4b | exact hcs _ (by omega) | exact A4c | (show _<_; omega) | exact A01 (fun _=>True.intro) | (intro c hc; cases hc; done) | (intro c hc; simp only [List.mem_cons,List.not_mem_nil,or_false] at hc; subst hc; first | exact True.intro | exact A28 (by rw [A0O]; omega) | exact A4b | exact hcs _ (by omega) | exact A4c | (show _<_; omega)) | (intro c hc; simp only [List.mem_cons,List.not_mem_nil,or_false] at hc; rcases hc with rfl | rfl<;>first | exact True.intro | exact A28 (by rw [A0O]; omega) | exact A4b | exact hcs _ (by omega) | exact A4c | (show _<_; omega)))))) ?_
   simp only [mask,List.take_succ_cons,List.take_zero,List.set_cons_succ,List.set_cons_zero]
   repeat' (first|((first|(refine zT ?_;intro K' hK')|(refine zG ?_ ?_<;>(try refine zH ?_)<;>intro hguard<;>(try exact zX)<;>try intro K' hK'))<;>((try simp+contextual only [go_sem]);(repeat' first|(with_reducible refine hK' _ _ ?_;clear hK' K')|exact zY|with_reducible refine And.intro ?_ ?_|(with_reducible intro hpath;try exact zP)|(refine hK' _ _ ?_;clear hK' K')|fail);try refine zS ?_))|(refine zE ?_;refine hK _ _ ?_;clear hK K)|(refine zN ?_;try refine zS ?_)|refine zA ?_|(refine zB ?_;intro K hK)|(refine zC ?_ ?_<;>(try refine zH ?_)<;>intro hcond<;>try exact zX)|fail)
   simp [A2W,A1M,A0y,A1L,Try.results102]
def zI (T:List Nat):List Int:=T.map fun x:Nat=>(x:Int)
theorem B7B (T:List Nat):(zI T).length=T.length:=by simp [zI]
def LI (L:List (Nat×Nat)):List (Int×Int):=L.map fun p=>((p.1:Int),(p.2:Int))
structure VX (s:BS) (j cap:Nat) (X:List Blk):Prop where
 vec:X[j]? =some (.box (fC s.opn++List.replicate (cap-s.opn.length) .any))
 cap:s.opn.length≤cap
 inn: ∀b,b∈X→ ∀m,blkIn m b
end Go.Proofs.Ytdhfgihnoimoaaa
