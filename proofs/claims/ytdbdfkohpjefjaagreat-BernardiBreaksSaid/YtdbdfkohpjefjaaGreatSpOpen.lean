/- A part of the proof. -/
import Derived.Test.YtdbdfkohpjefjaaGreatLayerA
import Derived.ProofKit
import Derived.OpenShut
import Derived.Deep.Slices
import Derived.Lib.SmallJoins
set_option linter.all false
namespace Go.Sp
open Go.ChangeShapes Go.WideShapes Go.ChangeAt Go.RowKit Go.Joins Go.Deep Go.WideElems
set_option linter.unusedVariables false
def A9c (l:List Int):List Tree:=l.map fun x=>Tree.int .i64 x
def A6v (P:Program) (e:TypeId) (n:Nat):Prop:=
 P.cellsOf e=n∧ ∀(H:Type) (enc:TypeId×Value->H) (w:World) (base:Nat) (spare:Nat->Bool) (held:Bool) (fuel:Nat) (cs:List Value) (x:DataW H×List MemPlace),
  DataW.trod enc P w base spare held fuel e cs=some x-> ∃l:List Int,l.length=n∧cs=l.map (fun x=>Value.int .i64 x)∧ ∀y∈l,(Lit.int .i64 y).wf=true
theorem B2O {P:Program} {e:TypeId} (he:P.underlying e=some (.int .i64)) (hc:P.cellsOf e=1):A6v P e 1:=by
 refine ⟨hc,fun H enc w base spare held fuel cs x h=> ?_⟩;obtain ⟨n,rfl,-,hw⟩:=DataW.trod_int he h;exact ⟨[n],rfl,rfl,by simpa using hw⟩
theorem B4p {α β:Type} {f:β->α} {cs:List α} {n:Nat} {p:β->Prop} (hl:cs.length=n) (h: ∀i,i<n-> ∃y,cs[i]? =some (f y)∧p y): ∃l:List β,l.length=n∧cs=l.map f∧ ∀y∈l,p y:=by
 subst hl
 induction cs with
 | nil=>exact ⟨[],rfl,rfl,by simp⟩
 | cons c cs ih=>
  obtain ⟨y,hy,hp⟩:=h 0 (by simp);obtain ⟨l,h1,h2,h3⟩:=ih (fun i hi=>by simpa using h (i+1) (by simpa using hi));refine ⟨y::l,by simp [h1],?_,?_⟩
  ·simp only [XY,<-h2]; simp at hy; rw [hy]
  ·intro z hz; rcases QV.1 hz with rfl | hz
   ·exact hp
   ·exact h3 z hz
theorem A9d {P:Program} {t:TypeId} {fs:Array Field} (ht:P.underlying t=some (.struct fs)) (hc:P.cellsOf t=fs.size)
  (hf: ∀(i:Nat) (f:Field),fs[i]? =some f->P.underlying f.type=some (.int .i64)∧P.cellsOf f.type=1∧f.offset=i):A6v P t fs.size:=by
 refine ⟨hc,fun H enc w base spare held fuel cs x h=> ?_⟩;obtain ⟨xs,m,-,-,hl,hx,hg⟩:=DataW.trod_struct ht h;refine B4p (hl.trans hc) fun i hi=> ?_;obtain ⟨h0,h1,h2⟩:=hf i fs[i] (QZ hi);have h3:=hg i fs[i] (QZ hi);rw [Qq (by omega)] at h3;obtain ⟨y,hy,-,hw⟩:=DataW.trod_int h0 h3;refine ⟨y,?_,hw⟩;rw [h1,h2] at hy;have:=congrArg (·[0]?) hy;simpa using this
theorem addr_add (b off i:Nat):(⟨b,off,none⟩:Addr).add i=⟨b,off+i,none⟩:=by
 simp only [Addr.add]; split<;>simp_all
theorem B2P {H:Type} {enc:TypeId×Value->H} {P:Program} {w:World} {base:Nat} {spare:Nat->Bool} {held:Bool} {fuel:Nat} {t e:TypeId} {n:Nat} {v:Value} {x:DataW H×List MemPlace}
  (ht:P.underlying t=some (.slice e)) (he:A6v P e n) (hn:0<n) (h:DataW.trod enc P w base spare held fuel t [v]=some x):
  ∃rows:List (List Int),(∀r∈rows,r.length=n∧ ∀y∈r,(Lit.int .i64 y).wf=true)∧rows.length≤maxLen∧TRel (fun _ _=>True) w (.slice (rows.map A9c)) v:=by
 rcases open_slice ht h with ⟨hv,-⟩ | ⟨a,len,cap,m,k,D,Pl,hv,hb,hlc,hcm,hm,-,hx⟩
 ·obtain rfl:v= .slice none 0 0:=by simpa using hv
  exact ⟨[],by simp,Xj _,.nil none 0⟩
 ·obtain rfl:v= .slice (some a) len cap:=by simpa using hv
  have hlm:len≤m:=by rw [hm]; split<;>omega
  have hrow: ∀i,i<len-> ∃r:List Int,r.length=n∧(∀y∈r,(Lit.int .i64 y).wf=true)∧w.cells? base (a.add (i*n)) n=some (r.map fun x=>Value.int .i64 x):=by
   intro i hi;obtain ⟨cs,h1,h2⟩:=hx i (by omega);obtain ⟨r,hr,rfl,hw⟩:=he.2 _ _ _ _ _ _ _ _ _ h2;rw [he.1] at h1;exact ⟨r,hr,hw,h1⟩
  by_cases h0:len=0
  ·subst h0;exact ⟨[],by simp,Xj _,.nil _ _⟩
  have hspot:a.spot=none:=by
   obtain ⟨r,hr,-,hc⟩:=hrow 0 (by omega);obtain ⟨-,hz⟩:=World.cells?_some hc;have hh:=hz.2 0 hn;rw [Qq (by simpa [hr] using hn)] at hh;have hs:=World.cell?_spot hh;simpa [Addr.add] using hs
  obtain ⟨b,off,spot⟩:=a;simp only at hspot;subst hspot;let R:Nat->List Int:=fun i=>if h:i<len then (hrow i h).choose else []
  have hR: ∀i,i<len->(R i).length=n∧(∀y∈R i,(Lit.int .i64 y).wf=true)∧w.cells? base ((⟨b,off,none⟩:Addr).add (i*n)) n=some ((R i).map fun x=>Value.int .i64 x):=by
   intro i hi;simp only [R,dif_pos hi];exact (hrow i hi).choose_spec
  refine ⟨(List.range len).map R,?_,?_,?_⟩
  ·intro r hr;obtain ⟨i,hi,rfl⟩:=QY.1 hr;exact ⟨(hR i (Xk.1 hi)).1,(hR i (Xk.1 hi)).2.1⟩
  ·simp; omega
  ·have e:len=(((List.range len).map R).map A9c).length:=by simp
   have hget: ∀i r,(((List.range len).map R).map A9c)[i]? =some r->i<len∧r=A9c (R i):=by
    intro i r hr;obtain ⟨hi,rfl⟩:=Qx.1 hr;simp at hi;simp [hi]
   have:=TRel.slice (S:=fun _ _=>True) (w:=w) b off n cap (((List.range len).map R).map A9c) (fun i j=> .int .i64 ((R i).getD j 0)) (by rw [<-e]; exact hlc)
    (by
     intro r hr;obtain ⟨i,hi,rfl⟩:=QY.1 hr;obtain ⟨j,hj,rfl⟩:=QY.1 hi
     simp [A9c,(hR j (Xk.1 hj)).1])
    (by
     intro i r j t hr hj;obtain ⟨hi,rfl⟩:=hget i r hr;obtain ⟨hl,-,hc⟩:=hR i hi;obtain ⟨hjl,rfl⟩:=Qx.1 hj;simp [A9c,hl] at hjl;refine ⟨trivial,?_⟩;obtain ⟨-,hz⟩:=World.cells?_some hc;have hh:=hz.2 j hjl;rw [addr_add,addr_add,Wx] at hh;rw [hh,QQ,Qq (by omega)]
     simp [Qz,Qq (show j<(R i).length by omega)])
    (by
     intro i r j t hr hj;obtain ⟨hi,rfl⟩:=hget i r hr;obtain ⟨hl,-,hc⟩:=hR i hi;obtain ⟨hjl,rfl⟩:=Qx.1 hj;simp [A9c,hl] at hjl;simp only [A9c,List.getElem_map];rw [Qz,Qq (by omega)]
     exact .int _ _)
   rw [<-e] at this;exact this
end Go.Sp
