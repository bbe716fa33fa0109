/- A part of the proof. -/
import Derived.Test.YtdhfgihnoimoaaaPart08
import Derived.Test.YtdhfgihnoimoaaaPart07
import Derived.Test.YtdhfgihnoimoaaaLayerC
set_option linter.all false
set_option maxHeartbeats 4000000
set_option maxRecDepth 100000
namespace Go.Proofs.Ytdhfgihnoimoaaa
open Go.Sp
instance:DecidableEq E:=fun x y=>decidable_of_iff (x.a=y.a∧x.b=y.b∧x.m=y.m) (by cases x; cases y; simp)
def fT (F:List Nat):List Tree:=F.map fun (n:Nat)=>Tree.int .i64 (n:Int)
def fC (F:List Nat):List ACell:=F.map fun (n:Nat)=>ACell.int .i64 (n:Int)
structure FOk (F:List Nat):Prop where
 len:F.length=12
 le: ∀i (h:i<F.length),F[i]≤i
theorem B4N {F:List Nat} {i:Nat} (h:i<F.length):(fT F).drop i= .int .i64 F[i]::(fT F).drop (i+1):=by
 have h':i<(fT F).length:=by simp [fT,h]
 rw [List.drop_eq_getElem_cons h']
 simp [fT]
def rootF (F:List Nat):Nat→Nat→Nat
 | 0,v=>v
 | n+1,v=>if F.getD v v=v then v else rootF F n (F.getD v v)
theorem B3z {F:List Nat} (h:FOk F): ∀{n m v:Nat},v<12→v≤n→v≤m→rootF F n v=rootF F m v:=by
 intro n
 induction n with
 | zero=>
  intro m v _ h1 h2
  have:v=0:=by omega
  subst this
  cases m with
  | zero=>rfl
  | succ m=>
   have h3:=h.le 0 (by rw [h.len]; omega)
   simp only [rootF]
   rw [List.getD_eq_getElem?_getD,List.getElem?_eq_getElem (by rw [h.len]; omega),Option.getD_some,if_pos (by omega)]
 | succ n ih=>
  intro m v hv h1 h2
  have hl:v<F.length:=by rw [h.len]; exact hv
  have h3:=h.le v hl
  have e:F.getD v v=F[v]:=by rw [List.getD_eq_getElem?_getD,List.getElem?_eq_getElem hl,Option.getD_some]
  cases m with
  | zero=>
   have:v=0:=by omega
   subst this
   simp only [rootF,e]
   rw [if_pos (by omega)]
  | succ m=>
   simp only [rootF,e]
   by_cases hx:F[v]=v
   ·rw [if_pos hx,if_pos hx]
   ·rw [if_neg hx,if_neg hx]
    exact ih (by omega) (by omega) (by omega)
theorem A2I {F:List Nat} (h:FOk F) {v:Nat} (hv:v<F.length):rootF F 12 v=if F[v]=v then v else rootF F 12 F[v]:=by
 have hv':v<12:=by rw [←h.len]; exact hv
 have e:F.getD v v=F[v]:=by rw [List.getD_eq_getElem?_getD,List.getElem?_eq_getElem hv,Option.getD_some]
 have h3:=h.le v hv
 have:rootF F 12 v=if F[v]=v then v else rootF F 11 F[v]:=by
  show (if F.getD v v=v then v else rootF F 11 (F.getD v v))=_
  rw [e]
 rw [this]
 by_cases hx:F[v]=v
 ·rw [if_pos hx,if_pos hx]
 ·rw [if_neg hx,if_neg hx]; exact B3z h (by omega) (by omega) (by omega)
theorem A2x {F:List Nat} (h:FOk F): ∀{n v:Nat},v<12→rootF F n v≤v:=by
 intro n
 induction n with
 | zero=>intro v _; exact Nat.le_refl _
 | succ n ih=>
  intro v hv
  have hl:v<F.length:=by rw [h.len]; exact hv
  have h3:=h.le v hl
  have e:F.getD v v=F[v]:=by rw [List.getD_eq_getElem?_getD,List.getElem?_eq_getElem hl,Option.getD_some]
  simp only [rootF,e]
  split
  ·exact Nat.le_refl _
  ·exact Nat.le_trans (ih (by omega)) h3
theorem B8e (F:List Nat) (h:FOk F) (v:Nat) (hv:v<12):ACall Try.prog 79 [.t (.rptr (fT F)),A0g v] (A0g (rootF F 12 v)):=by
 have hF:=h.len
 refine ACall.of_body Try.func79 rfl (by kernel_rfl) ?_
 simp only [entry,Try.ntmps79,A0g]
 refine zU ?_
 refine zR trivial trivial trivial ?_
 refine AWp.loopS (α:=Nat) 18 (fun u=>[(0,.c (.rptr (fT F))),(1,.c (.int .i64 (u:Int)))]) (fun u=>[]) (fun u=>u<12∧rootF F 12 v=rootF F 12 u) (fun u=>u) (v) (hk:=A0s.headL 0 18 [0,1] zW) (h0:=?_) (round:=fun u hI=>?_)
 ·exact ⟨hv,rfl⟩
 ·obtain ⟨hu,hx⟩:=hI
  have hul:u<F.length:=by omega
  have e1:=B4N hul
  have e2:=A2I h hul
  have e3:=h.le u hul
  repeat' (first|((first|(refine zT ?_;intro K' hK')|(refine zG ?_ ?_<;>(try refine zH ?_)<;>intro hguard<;>(try exact zX)<;>try intro K' hK'))<;>((try simp+contextual only [go_sem,e1,Int.toNat_natCast,Nat.mul_one]);(repeat' first|(with_reducible refine hK' _ _ ?_;clear hK' K')|exact zY|with_reducible refine And.intro ?_ ?_|(with_reducible intro hpath;try exact zP)|(refine hK' _ _ ?_;clear hK' K')|fail);try refine zS ?_))|(refine zE ?_;refine hK _ _ ?_;clear hK K)|(refine zN ?_;try refine zS ?_)|refine zA ?_|(refine zB ?_;intro K hK)|(refine zC ?_ ?_<;>(try refine zH ?_)<;>intro hcond<;>try exact zX)|fail)
  ·rw [if_neg (by omega)] at e2
   refine ⟨F[u],A0s.headN 0 18 [0,1] zW,?_,?_⟩
   ·exact ⟨by omega,by rw [hx,e2]⟩
   ·omega
  ·rw [if_pos (by omega)] at e2
   have e:rootF F 12 v=u:=by rw [hx,e2]
   simp [A0E,A0C,Blk.cells,ty,Try.results79,A0y,A05,toT,A0e,A0c,A0d,A0a,A0g,e]
def A1D (s:List Nat×Int) (p:Int×Int):List Nat×Int:=
 let a:=rootF s.1 12 p.1.toNat
 let b:=rootF s.1 12 p.2.toNat
 (s.1.set (max a b) (min a b),if a=b then s.2+1 else s.2)
def genS (l:List (Int×Int)):List Nat×Int:=l.foldl A1D (List.range 12,0)
def B8f (l:List (Int×Int)):Int:=(genS l).2
theorem A7L (l:List (Int×Int)) (p:Int×Int):genS (l++[p])=A1D (genS l) p:=by simp [genS]
theorem A8C {s:List Nat×Int} {p:Int×Int} (h:FOk s.1) (h1:0≤p.1∧p.1<12) (h2:0≤p.2∧p.2<12):FOk (A1D s p).1:=by
 refine ⟨by simp [A1D,h.len],fun i hi=> ?_⟩
 simp only [A1D] at hi ⊢
 rw [List.getElem_set]
 split
 ·omega
 ·exact h.le i (by simpa using hi)
theorem B1C {l:List (Int×Int)} (h: ∀p,p∈l→(0≤p.1∧p.1<12)∧(0≤p.2∧p.2<12)):FOk (genS l).1∧0≤(genS l).2∧(genS l).2≤l.length:=by
 have key: ∀(l:List (Int×Int)) (s:List Nat×Int),FOk s.1→(∀p,p∈l→(0≤p.1∧p.1<12)∧(0≤p.2∧p.2<12))→FOk (l.foldl A1D s).1∧s.2≤(l.foldl A1D s).2∧(l.foldl A1D s).2≤s.2+l.length:=by
  intro l
  induction l with
  | nil=>intro s hs _; simp; exact hs
  | cons p l ih=>
   intro s hs hp
   have hp1:=hp p (by simp)
   obtain ⟨q1,q2,q3⟩:=ih (A1D s p) (A8C hs hp1.1 hp1.2) fun q hq=>hp q (by simp [hq])
   refine ⟨q1,?_,?_⟩
   ·refine Int.le_trans ?_ q2; simp only [A1D]; split<;>omega
   ·refine Int.le_trans q3 ?_; simp only [A1D,List.length_cons]; split<;>omega
 have:=key l (List.range 12,0) ⟨by simp,fun i hi=>by simp⟩ h
 unfold genS
 simpa using this
theorem B0y (F:List Nat) (i n:Nat):setMany (fC F) i [.int .i64 (n:Int)]=fC (F.set i n):=by
 simp only [setMany,fC]
 rw [List.map_set]
theorem A7M (F:List Nat) (i n:Nat):(fC F).set i (.int .i64 (n:Int))=fC (F.set i n):=by
 simp only [fC]
 rw [List.map_set]
theorem B63 (l:List (Int×Int)):(genS l).1.length=12:=by
 have key: ∀(l:List (Int×Int)) (s:List Nat×Int),s.1.length=12→(l.foldl A1D s).1.length=12:=by
  intro l
  induction l with
  | nil=>intro s hs; exact hs
  | cons p l ih=>intro s hs; exact ih _ (by simp [A1D,hs])
 exact key l _ (by simp)
theorem B8g (l:List (Int×Int)): ¬fC (genS l).1=[]:=fun h=>by
 have:=congrArg List.length h
 simp [fC,B63] at this
theorem A2q (F:List Nat):(fC F).length=F.length:=by simp [fC]
theorem A36 {es:List E} {p:Int×Int} (h:p∈endsL es): ∃e,e∈es∧p=(e.a,e.b):=by
 unfold endsL at h
 obtain ⟨e,he,hp⟩:=List.mem_flatMap.1 h
 exact ⟨e,he,(List.mem_replicate.1 hp).2⟩
theorem ends_range {g:G} (hc:checkG g=0) {p:Int×Int} (h:p∈endsL g.es):(0≤p.1∧p.1<g.n)∧(0≤p.2∧p.2<g.n):=by
 obtain ⟨e,he,rfl⟩:=A36 h
 have:=(A02.1 hc).2.1 e he
 unfold okE at this
 simp only; omega
theorem B4O (F:List Nat):(fC F).mapM A0a=some (fT F):=by
 induction F with
 | nil=>rfl
 | cons x xs ih=>
  simp only [fC,fT,List.map_cons,List.mapM_cons,A0a] at ih ⊢
  rw [ih]; rfl
theorem B0z (F:List Nat) (h:FOk F) (v:Nat) (hv:v<12) {H:List Blk} {id:Nat} (hb:H[id]? =some (.box (fC F))):
  ACallH Try.prog 79 H [.c (.ptr id 0),.c (.int .i64 (v:Int))] H (.c (.int .i64 (rootF F 12 v:Nat))):=
 ACall.hb (B8e F h v hv) (by simp [toT,A0e,A0c,hb,Blk.cells,B4O,A0a,A0g]) rfl
def A7N (i:Nat):List Nat:=List.range i++List.replicate (12-i) 0
theorem B00 {i:Nat} (h:i<12):(A7N i).set i i=A7N (i+1):=by
 unfold A7N
 rw [show 12-i=(12-(i+1))+1 by omega,List.replicate_succ,List.range_succ]
 rw [List.set_append_right _ _ (by simp)]
 simp
theorem B01 {i:Nat} (h:i≤12):(A7N i).length=12:=by unfold A7N; simp; omega
theorem B24:A7N 12=List.range 12:=by unfold A7N; simp
theorem B25 (g:G) (hl:g.es.length<2^30):ACall Try.prog 59 [tG g] (.tup [A0g (if checkG g≠0 then 0 else B8f (endsL g.es)),A0g (checkG g)]):=by
 refine ACall.of_body Try.func59 rfl (by kernel_rfl) ?_
 simp only [entry,Try.ntmps59,tG]
 refine zU ?_
 repeat' (first|((first|(refine zT ?_;intro K' hK')|(refine zG ?_ ?_<;>(try refine zH ?_)<;>intro hguard<;>(try exact zX)<;>try intro K' hK'))<;>((try simp+contextual only [go_sem]);(repeat' first|(with_reducible refine hK' _ _ ?_;clear hK' K')|(with_reducible refine zL (c:=A9q g (by omega)) (q:=?_);try simp+contextual only [go_sem])|exact zY|with_reducible refine And.intro ?_ ?_|(with_reducible intro hpath;try exact zP)|(refine hK' _ _ ?_;clear hK' K')|fail);try refine zS ?_))|(refine zE ?_;refine hK _ _ ?_;clear hK K)|(refine zN ?_;try refine zS ?_)|refine zA ?_|(refine zB ?_;intro K hK)|(refine zC ?_ ?_<;>(try refine zH ?_)<;>intro hcond<;>try exact zX)|fail)
 ·rw [if_pos (by assumption)]
  simp [A0E,A0C,Blk.cells,ty,Try.results59,A0y,A05,toT,A0e,A0c,A0d,A0a,A0g]
 ·rw [if_neg (by omega)]
  have hc:checkG g=0:=by omega
  have hs:=B8V hl hc
  refine AWp.loopS (α:=Nat) 47 (fun i=>[(1,.c (.ptr 0 0)),(5,.c (.ptr 1 0)),(17,.c (.int .i64 (i:Int)))]) (fun i=>[.box [.int .i64 g.n,.slice (A0b g.es) .none],.box (fC (A7N i))]) (fun i=>i≤12) (fun i=>12-i) (0) (hk:=A0s.headL 2 47 [1,5,17] zW) (h0:=?_) (round:=fun i hI=>?_)
  ·exact Nat.zero_le _
  ·by_cases hlt:i<12
   ·have hset:=B00 hlt
    have hlen:=B01 hI
    generalize A7N i=F at*
    refine zR (zc @A2q (zc @hlen (zc @B0y (zc @A7M (zc @hset trivial))))) trivial trivial ?_
    refine ⟨i+1,A0s.headN 2 47 [1,5,17] zW,?_,?_⟩
    ·exact hlt
    ·omega
   ·have ei:i=12:=by omega
    subst ei
    refine zR trivial (zc (B3v g) trivial) trivial ?_
    refine AWp.weak (A0s.head (m:=3) (by omega) ((fun t f=>[f,t,f,f,f,t,f,t,f,f,f,f,f,f,f,f,f,f,f,f,f,f,f,f,f,t,f,f,f,f,f,f,f,f,f,f,f,f,f,f,f,f,f,f,f,f,f]) true false) (by first | rfl | simp [mask]) (by first | rfl | simp) (by (repeat' (first | exact A0q _ | refine A0n ?_ ?_ | refine A0h ?_ ?_ | exact A0l _ | exact True.intro | (show _<_; omega) | (intro c hc; cases hc; done) | (intro c hc; simp only [List.mem_cons,List.not_mem_nil,or_false] at hc; subst hc; first | exact True.intro | (show _<_; omega)) | (intro c hc; simp only [List.mem_cons,List.not_mem_nil,or_false] at hc; rcases hc with rfl | rfl<;>first | exact True.intro | (show _<_; omega))))) (by (repeat' (first | exact A0q _ | exact A04 _ | exact A0l _ | refine And.intro ?_ ?_ | refine A0n ?_ ?_ | refine A0i ?_ ?_ | refine A0h ?_ ?_ | exact True.intro | (show _<_; omega) | exact A01 (fun _=>True.intro) | (intro c hc; cases hc; done) | (intro c hc; simp only [List.mem_cons,List.not_mem_nil,or_false] at hc; subst hc; first | exact True.intro | (show _<_; omega)) | (intro c hc; simp only [List.mem_cons,List.not_mem_nil,or_false] at hc; rcases hc with rfl | rfl<;>first | exact True.intro | (show _<_; omega)))))) (AWp.rangeFunc (fun k H=>H=[.box [.int .i64 g.n,.slice (A0b g.es) .none],.box (fC (genS ((endsL g.es).take k)).1),.box [.int .i64 (genS ((endsL g.es).take k)).2]]∧(True)) (fun _ _=>False) 3 rfl (B18 g hs.s hs.es hs.m) (B4G rfl) (by omega) (by (repeat' (first | exact A0q _ | refine A0n ?_ ?_ | refine A0h ?_ ?_ | exact A0l _ | exact True.intro | (show _<_; omega) | (intro c hc; cases hc; done) | (intro c hc; simp only [List.mem_cons,List.not_mem_nil,or_false] at hc; subst hc; first | exact True.intro | (show _<_; omega)) | (intro c hc; simp only [List.mem_cons,List.not_mem_nil,or_false] at hc; rcases hc with rfl | rfl<;>first | exact True.intro | (show _<_; omega))))) (by rintro _ _ ⟨rfl,-⟩; simp [B8g]) (fun _ _ h=>h.elim) ?_ (fun l k ts H hts hI=> ?_) (fun H hI=> ?_) (fun e H h=>h.elim))
    ·exact ⟨by rw [B24]; simp [genS],trivial⟩
    ·obtain ⟨rfl,-⟩:=hI
     obtain ⟨p,hp,rfl⟩:=A8B hts
     have hrng:=ends_range hc (List.mem_of_getElem? hp)
     have hn12:=(A02.1 hc).1
     have hok:=B1C (l:=(endsL g.es).take k) fun q hq=>by
      have:=ends_range hc (List.mem_of_mem_take hq); omega
     have hk:k<(endsL g.es).length:=(List.getElem?_eq_some_iff.1 hp).1
     have hkl:((endsL g.es).take k).length≤k:=by rw [List.length_take]; omega
     have hsn:=take_snoc hp
     have hnx:=A7L ((endsL g.es).take k) p
     rw [←hsn] at hnx
     have hs3:=hs.s
     obtain ⟨p1,p2⟩:=p
     obtain ⟨a,rfl⟩:=Int.eq_ofNat_of_zero_le hrng.1.1
     obtain ⟨b,rfl⟩:=Int.eq_ofNat_of_zero_le hrng.2.1
     have ha:a<12:=by omega
     have hb:b<12:=by omega
     generalize genS ((endsL g.es).take k)=s at*
     obtain ⟨F,c⟩:=s
     have hF:=hok.1
     have la:=A2x hF (n:=12) ha
     have lb:=A2x hF (n:=12) hb
     simp only [A1D,Int.toNat_natCast] at hnx
     simp only [mask,A53,List.zip_cons_cons,List.zip_nil_right,List.zip_nil_left,List.foldl_cons,List.foldl_nil,List.set_cons_succ,List.set_cons_zero,ofT,A3i,A0x,List.map_cons,List.map_nil,ofT,A3i,toT,A05,A0a,A0g,A09,A5l,tG,A5E,A0m]
     generalize hx:rootF F 12 a=x at*
     generalize hy:rootF F 12 b=y at*
     have hmax:max (x:Int) (y:Int)=((max x y:Nat):Int):=by omega
     have hmin:min (x:Int) (y:Int)=((min x y:Nat):Int):=by omega
     have rx:=B0z F hF a ha (H:=[.box [.int .i64 g.n,.slice (A0b g.es) .none],.box (fC F),.box [.int .i64 c],.box [.int .i64 (a:Int),.int .i64 (b:Int)]]) (id:=1) rfl
     have ry:=B0z F hF b hb (H:=[.box [.int .i64 g.n,.slice (A0b g.es) .none],.box (fC F),.box [.int .i64 c],.box [.int .i64 (a:Int),.int .i64 (b:Int)]]) (id:=1) rfl
     rw [hx] at rx
     rw [hy] at ry
     repeat' (first|((first|(refine zT ?_;intro K' hK')|(refine zG ?_ ?_<;>(try refine zH ?_)<;>intro hguard<;>(try exact zX)<;>try intro K' hK'))<;>((try simp+contextual only [go_sem,Int.toNat_natCast,Nat.mul_one,A2q,B0y,A7M,hmax,hmin,hF.len]);(repeat' first|(with_reducible refine hK' _ _ ?_;clear hK' K')|((with_reducible first|refine ⟨_,_,rx,?_⟩|refine ⟨_,rx,?_⟩|refine ⟨_,_,ry,?_⟩|refine ⟨_,ry,?_⟩);try simp+contextual only [go_sem,Int.toNat_natCast,Nat.mul_one,A2q,B0y,A7M,hmax,hmin,hF.len])|exact zY|with_reducible refine And.intro ?_ ?_|(with_reducible intro hpath;try exact zP)|(refine hK' _ _ ?_;clear hK' K')|fail);try refine zS ?_))|(refine zE ?_;refine hK _ _ ?_;clear hK K)|(refine zN ?_;try refine zS ?_)|refine zA ?_|(refine zB ?_;intro K hK)|(refine zC ?_ ?_<;>(try refine zH ?_)<;>intro hcond<;>try exact zX)|fail)
     all_goals
      refine ⟨⟨_,_⟩,A0s.head2 (m:=3) (by decide) ((fun t f=>[f,f,f,f,f,f,f,f,f,f,f,f,f,f,f,f,f,f,f,f,f,f,f,f,f,f,f,f,f,f,f,f,f,f,f,f,f,f,f,f,f,f,f,f,f,f,f]) true false) rfl rfl zW,?_,?_⟩
      ·have hxy:(x=y)∨ ¬(x=y):=Classical.em _
       have hg:genS (List.take (k+1) (endsL g.es))=(F.set (max x y) (min x y),if x=y then c+1 else c):=hnx
       rw [hg]
       rcases hxy with hxy | hxy
       ·first
         | (simp [hxy]; done)
         | (exfalso; omega)
       ·first
         | (simp [hxy]; done)
         | (exfalso; omega)
      ·trivial
    ·obtain ⟨rfl,-⟩:=hI
     simp only [mask]
     have e0:checkG g=0:=hc
     refine zR trivial trivial trivial ?_
     simp [A0E,A0C,Blk.cells,ty,Try.results59,A0y,A05,toT,A0e,A0c,A0d,A0a,A0g,A8A,e0,B8f]
structure MovOk (k:Nat) (es:List E):Prop where
 d:distinctE es
 len:es.length≤k
 r: ∀e,e∈es→(0≤e.a∧e.a<12)∧(0≤e.b∧e.b<12)
instance ltE.dec:DecidableRel ltE:=fun x y=>by unfold ltE; infer_instance
def part:G:=⟨3,[⟨0,1,2⟩,⟨0,2,1⟩]⟩
structure RightG (g:G) (n:Nat):Prop where
 c:checkG g=0
 nn:g.n=n
 n1:1≤n
 n12:n≤12
 l:g.es.length≤40
 s:(endsL g.es).length≤400
end Go.Proofs.Ytdhfgihnoimoaaa
