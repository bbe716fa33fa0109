/- A part of the proof. -/
import Derived.Test.YtdhfgihnoimoaaaPart46
import Derived.Test.YtdhfgihnoimoaaaPart08
import Derived.Test.YtdhfgihnoimoaaaLayerC
set_option linter.all false
set_option maxHeartbeats 4000000
set_option maxRecDepth 100000
namespace Go.Proofs.Ytdhfgihnoimoaaa
open Go.Sp
def B7p (n:Nat) (es:List E) (d:List Int):Bool:=A96 (mulE es) n 3000 d (List.replicate n false)
def rkC (n:Nat) (es:List E) (d:List Int) (r:Nat):Bool:=((List.range r).all fun k=>(A6X n k).all fun l=>B7p n es (A7h d l))&&(((A6X n r).any fun l=> !B7p n es (A7h d l))||decide (sumD d n<r))
theorem B7q {n:Nat} {es:List E} (g:Gok n es) (hn:n≤4) (hs:sizeE es≤20) {d:List Int} (hd:d.length=n) (hb:bndL 20 d):B7p n es d=B3U n es d:=by
 have h1:=g.h1
 have hc:(n:Int)*(n*(n*(20+20)))≤2560:=by
  have h2:(n:Int)*(20+20)≤4*40:=by omega
  have h3:(n:Int)*(n*(20+20))≤4*160:=Int.mul_le_mul (by omega) h2 (Int.mul_nonneg (by omega) (by decide)) (by decide)
  have h4:(n:Int)*(n*(n*(20+20)))≤4*640:=Int.mul_le_mul (by omega) (by omega) (Int.mul_nonneg (by omega) (Int.mul_nonneg (by omega) (by decide))) (by decide)
  omega
 rw [Bool.eq_iff_iff,A5Y]
 exact B2H g.hM (by omega) hd (U:=20) (N:=20) (by decide) (by decide) (fun v _=>(hb v).2) (fun v _=>(hb v).1) (fun v _=>Int.le_trans (A3U g.hE v) hs) (by omega)
theorem B9y {n:Nat} {es:List E} (g:Gok n es) (hn:n≤4) (hs:sizeE es≤20) {d:List Int} (hd:d.length=n) (hb:bndL 8 d) {r:Nat} (hr:r≤8) (h:rkC n es d r=true):rkD n (mulE es) (fun v=>d.getD v 0)=(r:Int)-1:=by
 have h1:=g.h1
 obtain ⟨m,rfl⟩: ∃m,n=m+1:=⟨n-1,by omega⟩
 have hw: ∀k,k≤8→ ∀l,l∈A6X (m+1) k→B7p (m+1) es (A7h d l)=B3U (m+1) es (A7h d l):=fun k hk l hl=>B7q g hn hs (by rw [A5S]; exact hd) (A0t (A9G hb (C:=8) fun v=>by have:=B0Y hl v; omega) (by decide))
 unfold rkC at h
 simp only [Bool.and_eq_true,Bool.or_eq_true,List.all_eq_true,List.any_eq_true,decide_eq_true_eq,Bool.not_eq_true'] at h
 obtain ⟨q1,q2⟩:=h
 refine B9l g.hM (by omega) hd (fun k hk=> ?_) ?_
 ·rw [A9F,List.find?_eq_none]
  intro l hl
  have:=q1 k (List.mem_range.2 hk) l hl
  rw [hw k (by omega) l hl] at this
  unfold B3X
  rw [this]; simp
 ·rcases q2 with ⟨l,hl,q⟩ | q
  ·left
   rw [A9F,List.find?_isSome]
   refine ⟨l,hl,?_⟩
   rw [hw r hr l hl] at q
   unfold B3X
   rw [q]; rfl
  ·right; exact q
def B7K (n:Nat) (es:List E) (v:Nat) (rs:List Int):Bool:=(List.range rs.length).all fun k=>decide (-1≤rs.getD k 0∧rs.getD k 0≤7)&&rkC n es (A9U n v (k:Int)) (rs.getD k 0+1).toNat
theorem A22 {n:Nat} {es:List E} (g:Gok n es) (hn:n≤4) (hs:sizeE es≤20) {v:Nat} (hv:v<n) {rs:List Int} (hl:rs.length≤8) (h:B7K n es v rs=true):A1e n es v rs.length=rs:=by
 unfold B7K at h
 simp only [List.all_eq_true,List.mem_range,Bool.and_eq_true,decide_eq_true_eq] at h
 apply List.ext_getElem
 ·rw [A64]
 ·intro k h1 h2
  obtain ⟨q1,q2⟩:=h k h2
  have:=B3Y (n:=n) (es:=es) (v:=v) h2
  rw [List.getElem?_eq_getElem h1] at this
  rw [Option.some.inj this]
  have hr:=B9y g hn hs (A9H _ _ _) (A9I hv (by omega)) (by omega) q2
  unfold rkT
  rw [hr,←A1h h2]; omega
theorem A9O {p q:Nat→Bool}: ∀{n:Nat},(∀k,k<n→p k=q k)→A2A p n=A2A q n
 | 0,_=>rfl
 | n+1,h=>by
  unfold A2A
  rw [h n (by omega),A9O fun k hk=>h k (by omega)]
theorem B1g {n:Nat} {es:List E} {v N:Int} (hv:A8O ⟨(n:Int),es⟩ v=0) (hN:0≤N∧N≤12):A4Y n es v N=(A1e n es v.toNat (N.toNat+1),0):=by
 unfold A4Y; rw [if_neg (by omega),if_neg (by omega)]
theorem A9P {n:Nat} {es:List E} {v:Int} (hv:A8O ⟨(n:Int),es⟩ v=0) (hG:sizeE es-n+1≤6):A3u n es v=(A2d n es v.toNat,0):=by
 unfold A3u; rw [if_neg (by omega),if_neg (by omega)]
theorem B4b {n:Nat} {es:List E} {v:Int} (hv:A8O ⟨(n:Int),es⟩ v=0) (hG:sizeE es-n+1≤6):A3v n es v=(wgt n es v.toNat,0):=by
 unfold A3v; rw [A9P hv hG,if_neg (by simp)]
theorem B1h {n:Nat} {es:List E} (hj:A0D ⟨(n:Int),es⟩=0) (hG:sizeE es-n+1≤6):A6N n es=(A2A (wvP n es) n,0):=by
 unfold A6N; rw [if_neg (by omega),if_neg (by omega)]
def B1j:List E:=[⟨0,1,1⟩,⟨0,2,1⟩,⟨1,2,1⟩]
def B4c:List E:=[⟨0,1,2⟩,⟨1,2,2⟩]
def B5Y:List E:=[⟨0,1,4⟩]
theorem B2k:Sm5 3 B1j:=⟨B2R (by decide) (by decide+kernel) (by decide+kernel),by decide,by decide+kernel⟩
theorem B5V:Sm5 3 B4c:=⟨B2R (by decide) (by decide+kernel) (by decide+kernel),by decide,by decide+kernel⟩
theorem B89:Sm5 2 B5Y:=⟨B2R (by decide) (by decide+kernel) (by decide+kernel),by decide,by decide+kernel⟩
theorem B9z:A1e 3 B1j 2 4=[0,0,1,2]:=A22 (rs:=[0,0,1,2]) B2k.g (by decide) (by decide) (by decide) (by decide) (by decide+kernel)
theorem B90 (v:Nat) (hv:v<3):A1e 3 B1j v 2=[0,0]:=by
 have:v=0∨v=1∨v=2:=by omega
 rcases this with rfl | rfl | rfl
 ·exact A22 (rs:=[0,0]) B2k.g (by decide) (by decide) (by decide) (by decide) (by decide+kernel)
 ·exact A22 (rs:=[0,0]) B2k.g (by decide) (by decide) (by decide) (by decide) (by decide+kernel)
 ·exact A22 (rs:=[0,0]) B2k.g (by decide) (by decide) (by decide) (by decide) (by decide+kernel)
theorem B91 (v:Nat) (hv:v<3):A1e 3 B4c v 4=[0,0,1,1]:=by
 have:v=0∨v=1∨v=2:=by omega
 rcases this with rfl | rfl | rfl
 ·exact A22 (rs:=[0,0,1,1]) B5V.g (by decide) (by decide) (by decide) (by decide) (by decide+kernel)
 ·exact A22 (rs:=[0,0,1,1]) B5V.g (by decide) (by decide) (by decide) (by decide) (by decide+kernel)
 ·exact A22 (rs:=[0,0,1,1]) B5V.g (by decide) (by decide) (by decide) (by decide) (by decide+kernel)
theorem B7L:A1e 2 B5Y 0 6=[0,0,0,0,1,2]:=A22 (rs:=[0,0,0,0,1,2]) B89.g (by decide) (by decide) (by decide) (by decide) (by decide+kernel)
theorem B2U (v:Nat) (hv:v<3):A2d 3 B1j v=[1]:=by
 have:A2d 3 B1j v=A6M (A1e 3 B1j v 2) 2:=rfl
 rw [this,B90 v hv]; decide
theorem B7r (v:Nat) (hv:v<3):A2d 3 B4c v=[1,3]:=by
 have:A2d 3 B4c v=A6M (A1e 3 B4c v 4) 4:=rfl
 rw [this,B91 v hv]; decide
theorem B7s:A2d 2 B5Y 0=[1,2,3]:=by
 have:A2d 2 B5Y 0=A6M (A1e 2 B5Y 0 6) 6:=rfl
 rw [this,B7L]; decide
theorem B8A (v:Nat) (hv:v<3):wgt 3 B1j v=0:=by unfold wgt; rw [B2U v hv]; decide
theorem B5W (v:Nat) (hv:v<3):wgt 3 B4c v=1:=by unfold wgt; rw [B7r v hv]; decide
theorem B8B:A2A (wvP 3 B1j) 3=[]:=by
 rw [A9O (q:=fun _=>false) fun k hk=>by unfold wvP; rw [B8A k hk]; decide]; rfl
theorem B8C:A2A (wvP 3 B4c) 3=[0,1,2]:=by
 rw [A9O (q:=fun _=>true) fun k hk=>by unfold wvP; rw [B5W k hk]; decide]; rfl
theorem B7t:ACall Try.prog 28 [] (tG ⟨3,B1j⟩):=by
 refine ACall.of_body Try.func28 rfl (by kernel_rfl) ?_
 simp only [entry,Try.ntmps28]
 refine zU ?_
 refine zR trivial trivial trivial ?_
 simp [A0E,A0C,Blk.cells,ty,Try.results28,A0y,A05,toT,A0e,A0c,A0d,A0a,tG,B1j,A0b,B8T]
 rfl
theorem B7u:ACall Try.prog 29 [] (tG ⟨3,B4c⟩):=by
 refine ACall.of_body Try.func29 rfl (by kernel_rfl) ?_
 simp only [entry,Try.ntmps29]
 refine zU ?_
 refine zR trivial trivial trivial ?_
 simp [A0E,A0C,Blk.cells,ty,Try.results29,A0y,A05,toT,A0e,A0c,A0d,A0a,tG,B4c,A0b,B8T]
 rfl
theorem B4d:ACall Try.prog 10 [] (A09 true):=by
 have hT:=B7t
 have hD:=B7u
 have c1:=B1b (n:=3) (es:=B1j) (by decide) (fun _=>B2k) 2 3 (by decide)
 have c2:=A9N (n:=3) (es:=B1j) (by decide) (fun _=>B2k) 1
 have c3:=A6O (n:=3) (es:=B1j) (by decide) (fun _=>B2k) (fun _=>by decide)
 have c4:=A9N (n:=2) (es:=B5Y) (by decide) (fun _=>B89) 0
 have c5:=B1b (n:=2) (es:=B5Y) (by decide) (fun _=>B89) 0 5 (by decide)
 have c6:=A6O (n:=3) (es:=B4c) (by decide) (fun _=>B5V) (fun _=>by decide)
 have c7:=A8S (n:=3) (es:=B4c) (by decide) (fun _=>B5V) 0
 rw [B1g (by decide+kernel) (by decide)] at c1
 rw [A9P (by decide+kernel) (by decide)] at c2
 rw [B1h (by decide+kernel) (by decide),B8B] at c3
 rw [A9P (by decide+kernel) (by decide)] at c4
 rw [B1g (by decide+kernel) (by decide)] at c5
 rw [B1h (by decide+kernel) (by decide),B8C] at c6
 rw [B4b (by decide+kernel) (by decide)] at c7
 have t1:A1e 3 B1j (2:Int).toNat ((3:Int).toNat+1)=[0,0,1,2]:=B9z
 have t2:A2d 3 B1j (1:Int).toNat=[1]:=B2U 1 (by decide)
 have t4:A2d 2 B5Y (0:Int).toNat=[1,2,3]:=B7s
 have t5:A1e 2 B5Y (0:Int).toNat ((5:Int).toNat+1)=[0,0,0,0,1,2]:=B7L
 have t7:wgt 3 B4c (0:Int).toNat=1:=B5W 0 (by decide)
 rw [t1] at c1
 rw [t2] at c2
 rw [t4] at c4
 rw [t5] at c5
 rw [t7] at c7
 clear t1 t2 t4 t5 t7
 have d1:=A4E [0,0,1,2] [0,0,1,2] (by decide) (by decide)
 have d2:=A4E [1] [1] (by decide) (by decide)
 have d3:=A4E [1,2,3] [1,2,3] (by decide) (by decide)
 have d4:=A4E [0,0,0,0,1,2] [0,0,0,0,1,2] (by decide) (by decide)
 have d5:=A4E [0,1,2] [0,1,2] (by decide) (by decide)
 rw [decide_eq_true rfl] at d1 d2 d3 d4 d5
 have f4:A0b B5Y=[[.int .i64 0,.int .i64 1,.int .i64 4]]:=rfl
 unfold tG at hT hD c1 c2 c3 c4 c5 c6 c7
 have n3:((3:Nat):Int)=3:=rfl
 have n2:((2:Nat):Int)=2:=rfl
 simp only [n3,n2,f4] at c1 c2 c3 c4 c5 c6 c7
 generalize A0b B1j=e1 at*
 generalize A0b B4c=e2 at*
 simp only [A0m,A0p,List.map_cons,List.map_nil] at c1 c2 c3 c4 c5 c6 d1 d2 d3 d4 d5
 refine ACall.of_body Try.func10 rfl (by kernel_rfl) ?_
 simp only [entry,Try.ntmps10]
 refine zU ?_
 repeat' (first|((first|(refine zT ?_;intro K' hK')|(refine zG ?_ ?_<;>(try refine zH ?_)<;>intro hguard<;>(try exact zX)<;>try intro K' hK'))<;>((try simp+contextual only [go_sem,chunks,List.range,List.range.loop]);(repeat' first|(with_reducible refine hK' _ _ ?_;clear hK' K')|((with_reducible first|refine zK hT ?_|refine zK hD ?_|refine zK c1 ?_|refine zK c2 ?_|refine zK c3 ?_|refine zK c4 ?_|refine zK c5 ?_|refine zK c6 ?_|refine zK c7 ?_|refine zK d1 ?_|refine zK d2 ?_|refine zK d3 ?_|refine zK d4 ?_|refine zK d5 ?_);try simp+contextual only [go_sem,chunks,List.range,List.range.loop])|exact zY|with_reducible refine And.intro ?_ ?_|(with_reducible intro hpath;try exact zP)|(refine hK' _ _ ?_;clear hK' K')|fail);try refine zS ?_))|(refine zE ?_;refine hK _ _ ?_;clear hK K)|(refine zN ?_;try refine zS ?_)|refine zA ?_|(refine zB ?_;intro K hK)|(refine zC ?_ ?_<;>(try refine zH ?_)<;>intro hcond<;>try exact zX)|fail)
 simp [A0E,A0C,Blk.cells,ty,Try.results10,A0y,A05,toT,A0e,A0c,A0d,A0a,A09]
theorem B7v (g:G):ACall Try.prog 27 [tG g] (A09 (A2C g 5 7)):=by
 have h:=B6U g 5 7
 generalize A2C g 5 7=b at*
 obtain ⟨n,es⟩:=g
 refine ACall.of_body Try.func27 rfl (by kernel_rfl) ?_
 simp only [entry,Try.ntmps27,tG]
 refine zU ?_
 refine zR trivial (zc h trivial) trivial ?_
 simp [A0E,A0C,Blk.cells,ty,Try.results27,A0y,A05,toT,A0e,A0c,A0d,A0a,A09]
theorem A8k {g:G} {a b:Int} (h:A2C g a b=true):g.es.length≤40:=by
 unfold A2C at h
 simp only [Bool.and_eq_true,decide_eq_true_eq] at h
 exact h.1
theorem B7w {n:Nat} {es:List E} (h:A2C ⟨(n:Int),es⟩ 5 7=true) (hj:A0D ⟨(n:Int),es⟩=0):Sm5 n es:=by
 obtain ⟨hc,hcn⟩:=A5s hj
 have hl:=A8k h
 unfold A2C at h
 simp only [Bool.and_eq_true,Bool.or_eq_true,decide_eq_true_eq] at h
 rcases h.2 with h2 | h2
 ·exact absurd hc h2
 ·exact ⟨B2R hl hc hcn,by omega,by omega⟩
theorem B9G {g:G} (hc:checkG g=0):g=⟨(g.n.toNat:Int),g.es⟩:=by
 have:=(A02.1 hc).1
 obtain ⟨n,es⟩:=g
 simp only at this ⊢
 rw [show ((n.toNat:Nat):Int)=n by omega]
theorem A9Q (g:G) (d:List Int) (hl:g.es.length≤40) (hdl:d.length<2^40) (h:A3t g d≠0):ACall Try.prog 24 [tG g,A0m d] (.tup [A0m [],A0g (A3t g d)]):=by
 have hR:=B2S g d hl hdl h
 generalize A3t g d=e at*
 obtain ⟨n,es⟩:=g
 refine ACall.of_body Try.func24 rfl (by kernel_rfl) ?_
 simp only [entry,Try.ntmps24,tG,A0m]
 refine zU ?_
 refine zR (zc @h trivial) (zc hR trivial) trivial ?_
 simp [A0E,A0C,Blk.cells,ty,Try.results24,A0y,A05,toT,A0e,A0c,A0d,A0a,A0g,A0m,A0p]
theorem A9R (g:G) (d:List Int) (hl:g.es.length≤40) (hdl:d.length<2^40) (h:A3t g d≠0):ACall Try.prog 25 [tG g,A0m d] (.tup [A0m [],A0g (A3t g d)]):=by
 have hG:=A3X g d hl hdl
 have hR:ACall Try.prog 49 [tG g,A0m d] (.tup [A0g 0,A0g (A3t g d)]):=by
  generalize A3t g d=e at*
  obtain ⟨n,es⟩:=g
  refine ACall.of_body Try.func49 rfl (by kernel_rfl) ?_
  simp only [entry,Try.ntmps49,tG,A0m]
  refine zU ?_
  refine zR (zc @h trivial) (zc hG trivial) trivial ?_
  simp [A0E,A0C,Blk.cells,ty,Try.results49,A0y,A05,toT,A0e,A0c,A0d,A0a,A0g]
 clear hG
 generalize A3t g d=e at*
 obtain ⟨n,es⟩:=g
 refine ACall.of_body Try.func25 rfl (by kernel_rfl) ?_
 simp only [entry,Try.ntmps25,tG,A0m]
 refine zU ?_
 refine zR (zc @h trivial) (zc hR trivial) trivial ?_
 simp [A0E,A0C,Blk.cells,ty,Try.results25,A0y,A05,toT,A0e,A0c,A0d,A0a,A0g,A0m,A0p]
def A8l (x:Int):Bool:=decide (-100≤x∧x≤100)
theorem B7x (g:G) (d:List Int) (n:Nat) (hn:g.n=n) (hc:B2Q d n=0):ACall Try.prog 43 [tG g,A0m d] (A09 (d.all A8l)):=by
 obtain ⟨h1,h12,hd,_⟩:=B2b hc
 have hChk:=B0W d n (by omega)
 rw [hc] at hChk
 obtain ⟨m,es⟩:=g
 simp only at hn
 subst hn
 have h100: ¬(n:Int)>100:=by omega
 refine ACall.of_body Try.func43 rfl (by kernel_rfl) ?_
 simp only [entry,Try.ntmps43,tG,A0m]
 refine zU ?_
 refine zR (zc @A0f (zc @hd (zc @h100 trivial))) (zc hChk trivial) trivial ?_
 refine AWp.loopS (α:=Nat) 32 (fun i=>[(1,.c (.slice (A0p d) .none)),(2,.c (.ptr 0 0)),(5,.c (.int .i64 (i:Int)))]) (fun i=>[.box [.int .i64 (n:Int),.slice (A0b es) .none]]) (fun i=>i≤n∧ ∀j,j<i→A8l (d.getD j 0)=true) (fun i=>n-i) (0) (hk:=A0s.headL 1 32 [1,2,5] zW) (h0:=?_) (round:=fun i hI=>?_)
 ·exact ⟨Nat.zero_le _,fun j hj=>by omega⟩
 ·obtain ⟨hi,hpre⟩:=hI
  by_cases hil:i<n
  ·have hiI:(i:Int)<(n:Int):=by omega
   have hg:=A0P (A0u (d:=d) (i:=i) (by omega))
   cases hin:A8l (d.getD i 0) with
   | false=>
    have e:d.all A8l=false:=by
     rw [Bool.eq_false_iff]
     intro h
     have:=List.all_eq_true.1 h _ (List.getElem_mem (l:=d) (n:=i) (by omega))
     rw [←A1h,hin] at this
     cases this
    rw [e]
    clear hpre e
    unfold A8l at hin
    rw [decide_eq_false_iff_not] at hin
    generalize d.getD i 0=x at*
    by_cases hx:x< -100
    ·
     refine zR (zc @hiI (zc @hg (zc @hx (zc @A0f (zc @hd (zc @Nat.zero_add trivial)))))) trivial trivial ?_
     simp [A0E,A0C,Blk.cells,ty,Try.results43,A0y,A05,toT,A0e,A0c,A0d,A0a,A09]
    ·have hx2:x>100:=by omega
     refine zR (zc @hiI (zc @hg (zc @hx (zc @hx2 (zc @A0f (zc @hd (zc @Nat.zero_add trivial))))))) trivial trivial ?_
     simp [A0E,A0C,Blk.cells,ty,Try.results43,A0y,A05,toT,A0e,A0c,A0d,A0a,A09]
   | true=>
    have hp2: ∀j,j<i+1→A8l (d.getD j 0)=true:=fun j hj=>by
     by_cases e:j=i
     ·rw [e]; exact hin
     ·exact hpre j (by omega)
    clear hpre
    unfold A8l at hin
    rw [decide_eq_true_eq] at hin
    generalize d.getD i 0=x at*
    have hx: ¬x< -100:=by omega
    have hx2: ¬x>100:=by omega
    refine zR (zc @hiI (zc @hg (zc @hx (zc @hx2 (zc @A0f (zc @hd (zc @Nat.zero_add trivial))))))) trivial trivial ?_
    refine ⟨i+1,A0s.headN 1 32 [1,2,5] zW,?_,?_⟩
    ·exact ⟨hil,hp2⟩
    ·omega
  ·have hnl: ¬(i:Int)<(n:Int):=by omega
   have e:d.all A8l=true:=by
    rw [List.all_eq_true]
    intro x hx
    obtain ⟨j,hj,rfl⟩:=List.mem_iff_getElem.1 hx
    have:=hpre j (by omega)
    rwa [A1h hj] at this
   rw [e]
   refine zR (zc @hnl (zc @A0f (zc @hd trivial))) trivial trivial ?_
   simp [A0E,A0C,Blk.cells,ty,Try.results43,A0y,A05,toT,A0e,A0c,A0d,A0a,A09]
theorem B2V {g:G} {d:List Int} (h:A3t g d=0):A0D g=0∧B2Q d g.n=0:=by
 unfold A3t at h
 split at h
 ·rename_i h1; exact absurd h h1
 ·rename_i h1; exact ⟨by omega,h⟩
theorem B7y (g:G) (d:List Int) (k:Int) (hk:0≤k∧k≤100): ∃b,ACall Try.prog 23 [tG g,A0m d,A0g k] (A09 b)∧(b=true→A2C g 5 7=true∧d.length≤100∧(A3t g d=0→bndL 100 d∧sumD d g.n.toNat≤k)):=by
 have hF:=B7v g
 cases hs:A2C g 5 7 with
 | false=>
  rw [hs] at hF
  refine ⟨false,?_,fun h=>by cases h⟩
  clear hs
  obtain ⟨n,es⟩:=g
  refine ACall.of_body Try.func23 rfl (by kernel_rfl) ?_
  simp only [entry,Try.ntmps23,tG,A0m,A0g]
  refine zU ?_
  refine zR trivial (zc hF trivial) trivial ?_
  simp [A0E,A0C,Blk.cells,ty,Try.results23,A0y,A05,toT,A0e,A0c,A0d,A0a,A09]
 | true=>
  rw [hs] at hF
  have hl:=A8k hs
  by_cases h100:(d.length:Int)>100
  ·refine ⟨false,?_,fun h=>by cases h⟩
   clear hs hl
   obtain ⟨n,es⟩:=g
   refine ACall.of_body Try.func23 rfl (by kernel_rfl) ?_
   simp only [entry,Try.ntmps23,tG,A0m,A0g]
   refine zU ?_
   refine zR (zc @A0f (zc @h100 trivial)) (zc hF trivial) trivial ?_
   simp [A0E,A0C,Blk.cells,ty,Try.results23,A0y,A05,toT,A0e,A0c,A0d,A0a,A09]
  ·have hG:=A3X g d hl (by omega)
   have h100b:d.length≤100:=by omega
   by_cases he:A3t g d=0
   ·obtain ⟨hj,hc⟩:=B2V he
    obtain ⟨hck,_⟩:=A5s hj
    have hn:g.n=(g.n.toNat:Int):=by have:=(A02.1 hck).1; omega
    rw [hn] at hc
    have hL:=B7x g d g.n.toNat hn hc
    obtain ⟨q1,q2,q3,q4⟩:=B2b hc
    have hT:=A9C d q3 (by omega) (A0t q4 (by decide))
    rw [he] at hG
    refine ⟨d.all A8l&&decide (sumD d g.n.toNat≤k),?_,fun h=>⟨rfl,h100b,fun _=> ?_⟩⟩
    ·clear hs hl hc hn hck hj he
     generalize sumD d g.n.toNat=s at*
     generalize d.all A8l=b at*
     clear q1 q2 q3 q4
     obtain ⟨n,es⟩:=g
     cases b with
     | false=>
      rw [Bool.false_and]
      refine ACall.of_body Try.func23 rfl (by kernel_rfl) ?_
      simp only [entry,Try.ntmps23,tG,A0m,A0g]
      refine zU ?_
      refine zR (zc @A0f (zc @h100 trivial)) (zc hF (zc hG (zc hL (zc hT trivial)))) trivial ?_
      simp [A0E,A0C,Blk.cells,ty,Try.results23,A0y,A05,toT,A0e,A0c,A0d,A0a,A09]
     | true=>
      rw [Bool.true_and]
      refine ACall.of_body Try.func23 rfl (by kernel_rfl) ?_
      simp only [entry,Try.ntmps23,tG,A0m,A0g]
      refine zU ?_
      refine zR (zc @A0f (zc @h100 trivial)) (zc hF (zc hG (zc hL (zc hT trivial)))) trivial ?_
      simp [A0E,A0C,Blk.cells,ty,Try.results23,A0y,A05,toT,A0e,A0c,A0d,A0a,A09]
    ·rw [Bool.and_eq_true,decide_eq_true_eq] at h
     refine ⟨fun v=> ?_,h.2⟩
     by_cases hv:v<d.length
     ·rw [A1h hv]
      have:=List.all_eq_true.1 h.1 _ (List.getElem_mem hv)
      unfold A8l at this
      simpa using this
     ·rw [List.getD_eq_getElem?_getD,List.getElem?_eq_none (by omega)]; simp
   ·refine ⟨true,?_,fun _=>⟨rfl,h100b,fun h=>absurd h he⟩⟩
    clear hs hl
    generalize A3t g d=e at*
    obtain ⟨n,es⟩:=g
    refine ACall.of_body Try.func23 rfl (by kernel_rfl) ?_
    simp only [entry,Try.ntmps23,tG,A0m,A0g]
    refine zU ?_
    refine zR (zc @A0f (zc @h100 (zc @he trivial))) (zc hF (zc hG trivial)) trivial ?_
    simp [A0E,A0C,Blk.cells,ty,Try.results23,A0y,A05,toT,A0e,A0c,A0d,A0a,A09]
theorem B7z (g:G) (d:List Int) (hdl:d.length<2^40) (hs:A2C g 5 7=true) (hd:A3t g d=0→bndL 100 d∧sumD d g.n.toNat≤5): ∃L e,L.length<2^40∧ACall Try.prog 24 [tG g,A0m d] (.tup [A0m L,A0g e])∧ACall Try.prog 25 [tG g,A0m d] (.tup [A0m L,A0g e]):=by
 have hl:=A8k hs
 by_cases h:A3t g d=0
 ·obtain ⟨hj,hc⟩:=B2V h
  have hn:=B9G (A5s hj).1
  obtain ⟨q1,q2⟩:=hd h
  generalize hnn:g.n.toNat=n at*
  generalize g.es=es at*
  subst hn
  have h5:=B7w hs hj
  have hD:A3t ⟨(n:Int),es⟩ d=0→Dv5 n es d:=fun _=>⟨h5,(B2b (n:=n) hc).2.2.1,q1,q2⟩
  refine ⟨_,_,?_,B1e hl hdl hD,B1f hl hdl hD⟩
  have hn5:=h5.n5
  unfold B1d
  split
  ·show 0<2^40; decide
  ·split
   ·show 0<2^40; decide
   ·have:=A5Z (B2j n es d (rkL n es d)) n
    show (A2A _ _).length<_
    omega
 ·exact ⟨[],_,by show 0<2^40; decide,A9Q g d hl hdl h,A9R g d hl hdl h⟩
theorem B1i (g:G) (d:List Int):ACall Try.prog 7 [tG g,A0m d] (A09 true):=by
 have hA:=B4d
 obtain ⟨b,hF,hb⟩:=B7y g d 5 (by decide)
 cases b with
 | false=>
  clear hb
  obtain ⟨n,es⟩:=g
  refine ACall.of_body Try.func7 rfl (by kernel_rfl) ?_
  simp only [entry,Try.ntmps7,tG,A0m,A0g]
  refine zU ?_
  refine zR trivial (zc hF (zc hA trivial)) trivial ?_
  simp [A0E,A0C,Blk.cells,ty,Try.results7,A0y,A05,toT,A0e,A0c,A0d,A0a,A09]
 | true=>
  obtain ⟨hs,h100,hd⟩:=hb rfl
  obtain ⟨L,e,hL,c1,c2⟩:=B7z g d (by omega) hs hd
  have hE:=A4E L L hL hL
  rw [decide_eq_true rfl] at hE
  clear hs hd hb
  obtain ⟨n,es⟩:=g
  refine ACall.of_body Try.func7 rfl (by kernel_rfl) ?_
  simp only [entry,Try.ntmps7,tG,A0m,A0g]
  refine zU ?_
  refine zR trivial (zc hF (zc c1 (zc c2 (zc hA (zc hE trivial))))) trivial ?_
  simp [A0E,A0C,Blk.cells,ty,Try.results7,A0y,A05,toT,A0e,A0c,A0d,A0a,A09]
end Go.Proofs.Ytdhfgihnoimoaaa
