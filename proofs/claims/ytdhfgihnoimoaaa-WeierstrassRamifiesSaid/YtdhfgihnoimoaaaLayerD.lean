/- Our layer over the machine: values of a running function as plain data, and the rules by which they step; part 4. -/
import Derived.Test.YtdhfgihnoimoaaaLayerB
import Derived.Test.YtdhfgihnoimoaaaLayerC
import Derived.Shelf.SlSortCmp.Whole1
import Derived.Shelf.SlSortCmp.NoneTotal
import Derived.Test.YtdhfgihnoimoaaaLayerA
set_option linter.all false
namespace Go.Sp
open Go.RowKit
section
variable {P:Program} {rd:Option Nat} {h:Nat} {Q:Exit→St→Prop} {all:Array Oper} {tm:List AVal} {H:List Blk} {o:Oper} {ρ:Operand→AVal}
structure ADr (P:Program) (rd:Option Nat) (h:Nat) (all:Array Oper) (k:Nat) (Q:Exit→St→Prop) (tm:List AVal) (H:List Blk):Prop where
 out: ∀s X,(∀j,j∈X↔j<k)→Sched all X s→Down all X→(∀i,i<all.size→i∈X∨i∈s)→ ∀N ι0 σ0 w0 H0 ι σ a w,SRel ι σ ⟨tm,H⟩ a w→RdOK rd σ w→MarksOK N a.defers σ w→Ext σ0 w0 σ w→
  Mono (ι0.take h) σ0 w0 (H0.take h) ι σ w H→wpOpsIn (Fr rd) 9 P all (APost N h ι0 σ0 w0 H0 Q) s a w
def bef (all:Array Oper) (j i:Nat):Bool:=((B1s all.toList []).getD j 0).testBit i
def readsOf (all:Array Oper) (o:Oper):List Tmp:=o.op.operands.toList.flatMap B0i++B0j all o
structure SegOk (all:Array Oper) (k m p:Nat):Prop where
 kp:k≤p
 pm:p<m
 ms:m≤all.size
 dst: ∀(i:Nat) x,all[i]? =some x→k≤i→i<m→i≠p→ ∃t,x.dst=some t
 cut: ∀(i j:Nat) x y,all[i]? =some x→all[j]? =some y→k≤i→i<m→m≤j→bef all j i=true
 ne: ∀(i j:Nat) x y t,all[i]? =some x→all[j]? =some y→k≤i→i<m→k≤j→j<m→i≠j→x.dst=some t→y.dst≠some t
 rd: ∀(i j:Nat) x y t,all[i]? =some x→all[j]? =some y→k≤i→i<m→k≤j→j<m→x.dst=some t→t∈readsOf all y→i<j∧bef all j i=true∧i≠p
end
end Go.Sp
namespace Go.Sp
open Go.RowKit
section
variable {P:Program} {rd:Option Nat} {h:Nat} {Q:Exit→St→Prop} {all:Array Oper} {tm:List AVal} {H:List Blk} {o:Oper} {ρ:Operand→AVal}
end
end Go.Sp
namespace Go.Sp
open Go.RowKit
section
variable {P:Program} {h:Nat} {Q:Exit→St→Prop} {all:Array Oper} {tm:List AVal} {H:List Blk} {o:Oper} {ρ:Operand→AVal}
def B4A (tm:List AVal):List (Nat×AVal)→List AVal
 | []=>tm
 | (t,v)::l=>B4A (tm.set t v) l
theorem ACallE.trim {f:FuncId} {args:List AVal} {R:List Blk→AVal→Prop} (m:Nat) (hc:ACallE P f H args R) (hm:H.length≤m) (hR: ∀H2 r,R H2 r→A1x m (H2.take m)∧A9h m r):
  ACallE P f H args (fun H' r=> ∃H2,R H2 r∧H'=H2.take m):=by
 refine ⟨hc.enters,fun ι σ w vs h1 h2 h3=>(hc.runs ι σ w vs h1 h2 h3).mono ?_⟩
 rintro e w' ⟨v,ι',σ',H2,r,q,rfl,q1,q2,q3,q4⟩
 obtain ⟨hb,hv⟩:=hR _ _ q
 have hW:=A0s.head2 (h:=H.length) (m:=m) hm [true] (tm:=[r]) (H:=H2) rfl rfl ⟨(by intro x hx; simp [mask] at hx; subst hx; exact hv),hb⟩
 obtain ⟨ι2,s1,s2,s3⟩:=hW ι' σ' { tmps:= #[v],defers:=[] } w' ⟨⟨rfl,fun t x u p1 p2=>by
  cases t with
  | zero=>simp at p1 p2; subst p1; subst p2; exact q1
  | succ t=>simp at p1⟩,q2⟩
 refine ⟨v,ι2,σ',H2.take m,r,⟨H2,q,rfl⟩,rfl,s1.tmps.2 0 r v rfl rfl,s1.heap,⟨q3.stab,fun id b hi=> ?_,fun id tip k hi=> ?_⟩,q4⟩
 ·have hl:id<H.length:=by rw [←h1.1]; exact (List.getElem?_eq_some_iff.1 hi).1
  have:=congrArg (·[id]?) s2
  simp only [List.getElem?_take_of_lt hl] at this
  rw [this]; exact q3.iota id b hi
 ·have hl:id<H.length:=(List.getElem?_eq_some_iff.1 hi).1
  obtain ⟨t,k',p1,p2⟩:=q3.chain id tip k hi
  exact ⟨t,k',by rw [List.getElem?_take_of_lt (by omega)]; exact p1,p2⟩
end
attribute [go_sem] B4A
end Go.Sp
namespace Go.Sp
open Go.RowKit
end Go.Sp
namespace Go.Sp
open Go.RowKit
section
variable {P:Program} {rd:Option Nat} {h:Nat} {Q:Exit→St→Prop} {all:Array Oper} {tm:List AVal} {H:List Blk}
structure SegOkS (all:Array Oper) (k m:Nat) (ps:List Nat):Prop where
 ms:m≤all.size
 pin: ∀p,p∈ps→k≤p∧p<m
 dst: ∀(i:Nat) x,all[i]? =some x→k≤i→i<m→ ¬i∈ps→ ∃t,x.dst=some t
 cut: ∀(i j:Nat) x y,all[i]? =some x→all[j]? =some y→k≤i→i<m→m≤j→bef all j i=true
 ne: ∀(i j:Nat) x y t,all[i]? =some x→all[j]? =some y→k≤i→i<m→k≤j→j<m→i≠j→x.dst=some t→y.dst≠some t
 rd: ∀(i j:Nat) x y t,all[i]? =some x→all[j]? =some y→k≤i→i<m→k≤j→j<m→x.dst=some t→t∈readsOf all y→i<j∧bef all j i=true∧(i∈ps→j∈ps)
 ord: ∀(i j:Nat) x y,all[i]? =some x→all[j]? =some y→i∈ps→j∈ps→i<j→bef all j i=true
end
end Go.Sp
namespace Go.Sp
open Go.RowKit
section
variable {P:Program} {rd:Option Nat} {h:Nat} {Q:Exit→St→Prop} {all:Array Oper} {tm:List AVal} {H:List Blk} {o:Oper} {ρ:Operand→AVal}
end
end Go.Sp
namespace Go.Sp
open Go.RowKit
section
variable {P:Program} {rd:Option Nat} {h:Nat} {Q:Exit→St→Prop} {all:Array Oper} {tm:List AVal} {H:List Blk}
end
end Go.Sp
namespace Go.Sp
open Go.RowKit
end Go.Sp
namespace Go.Sp
open Go.RowKit
section
variable {ι ι':List Nat} {σ σ':Sig} {w:World} {H H':List Blk}
end
section thaw
variable {P:Program} {h:Nat} {c:Code} {Q:Exit→St→Prop} {tm:List AVal} {H:List Blk} {rows:List (List Tree)} {i k tip:Nat}
end thaw
end Go.Sp
namespace Go.Sp
open Go.RowKit Go.Sort
open Go.Proofs (ltOf)
section
variable {α:Type} [Inhabited α] (cell:α→Tree)
end
end Go.Sp
namespace Go.Sp
open Go.RowKit Go.Sort
open Go.Proofs (ltOf)
section
variable {ι:List Nat} {σ:Sig} {w:World} {H:List Blk} {id' b:Nat} {cs:List ACell}
end
end Go.Sp
namespace Go.Sp
theorem A0s.tailB {h:Nat} (i j k:Nat) {tm:List AVal} {H:List Blk} {cs:List ACell} (hi:H[i]? =some (.box cs)) {rows:List (List Tree)} (hj:cs[j]? =some (.slice rows .exact)) (hh:h≤i):
  A0s h ⟨tm,H⟩ ⟨tm,H.set i (.box (cs.set j (.slice rows (.tail H.length 0))))++[.chain 0 k]⟩:=by
 intro ι σ a w hr
 have hil:i<H.length:=(List.getElem?_eq_some_iff.1 hi).1
 have hl:ι.length=H.length:=hr.heap.1
 have M:Mono ι σ w H (ι++[0]) σ w (H.set i (.box (cs.set j (.slice rows (.tail H.length 0))))++[.chain 0 k]):=by
  refine ⟨fun b o u h h'=>⟨h,h'⟩,fun id b hb=>by rw [List.getElem?_append_left (List.getElem?_eq_some_iff.1 hb).1]; exact hb,fun id tip k0 hc=> ?_⟩
  refine ⟨tip,k0,?_,MarkUp.refl _ _ _,.inr ⟨rfl,rfl,fun b o u h h'=>⟨h,⟨u,h'⟩,fun h3=>h3⟩⟩⟩
  have hid:id<H.length:=(List.getElem?_eq_some_iff.1 hc).1
  rw [List.getElem?_append_left (by simpa using hid),List.getElem?_set_ne (by rintro rfl; rw [hi] at hc; cases hc)]
  exact hc
 refine ⟨ι++[0],⟨hr.tmps.mono M,by simp [hl],fun id blk b h1 h2=> ?_⟩,?_,?_⟩
 ·by_cases hid:id<H.length
  ·rw [List.getElem?_append_left (by simpa using hid)] at h1
   rw [List.getElem?_append_left (by omega)] at h2
   by_cases e:i=id
   ·subst e
    rw [List.getElem?_set_self hil] at h1
    cases h1
    obtain ⟨ha,hc⟩:=hr.heap.2 i _ b hi h2
    refine ⟨ha,fun j' c hj'=> ?_⟩
    by_cases ej:j=j'
    ·subst ej
     have hjl:j<cs.length:=(List.getElem?_eq_some_iff.1 hj).1
     rw [List.getElem?_set_self hjl] at hj'
     cases hj'
     obtain ⟨q1,q2,v,q3,q4⟩:=hc j _ hj
     obtain ⟨p1,a0,n0,rfl⟩:=q4
     exact ⟨q1,q2,_,q3,M.t p1,0,k,by simp,Nat.le_refl _,fun _=> .inl rfl⟩
    ·rw [List.getElem?_set_ne ej] at hj'
     obtain ⟨q1,q2,v,q3,q4⟩:=hc j' c hj'
     exact ⟨q1,q2,v,q3,M.cell q4⟩
   ·rw [List.getElem?_set_ne e] at h1
    exact (hr.heap.2 id blk b h1 h2).same M
  ·rw [List.getElem?_append_right (by simpa using Nat.not_lt.1 hid)] at h1
   simp only [List.length_set] at h1
   cases hk:id-H.length with
   | zero=>rw [hk] at h1; simp at h1; subst h1; trivial
   | succ n=>rw [hk] at h1; simp at h1
 ·rw [List.take_append_of_le_length (by omega)]
 ·simp only
  rw [List.take_append_of_le_length (by simp; omega),List.take_set_of_le hh]
end Go.Sp
namespace Go.Sp
open Go.RowKit
section ops
variable {P:Program} {rd:Option Nat} {o:Oper} {ρ:Operand→AVal} {H H':List Blk}
theorem B0s (f:FuncId) (xs:Array Operand) (ho:o.op= .makeFunc (.func f) xs #[]) (caps:List ACap) (hc:(xs.toList.map ρ).mapM A8x=some caps):AStep P rd o ρ H (.c (.bfn f caps)) H:=by
 refine AStep.value (by simp [ho]) fun ι σ a w hx' hH=>⟨.func (.func f) (xs.map a.eval) #[],by simp [execOp,ho,Instr.makeFunc],(xs.map a.eval).toList,rfl,?_,fun i c u h1 h2=> ?_⟩
 ·have:=(A0B hc).1
  simp at this ⊢; omega
 ·obtain ⟨hl,hg⟩:=A0B hc
  simp only [Array.toList_map,List.getElem?_map] at h2
  cases hi:xs.toList[i]? with
  | none=>simp [hi] at h2
  | some y=>
   simp [hi] at h2; subst h2
   exact A8y (hx' y (by simp [Op.operands,ho]; exact Array.mem_of_getElem? (by simpa using hi))) (hg i (ρ y) c (by simp [hi]) h1)
theorem B3l (fo:Operand) (xs:Array Operand) (ts:Array TypeId) (ho:o.op= .call { callee:= .value fo,args:=xs,argTypes:=ts }) (f:FuncId) (caps:List ACap) (hf:ρ fo= .c (.bfn f caps)) (r:AVal)
  (h:ACallH P f H (caps.map A66++xs.toList.map ρ) H' r):AStep P rd o ρ H r H':=by
 intro ι σ a w hx hH _ next Q hn
 have hfv:=hx fo (by simp [Op.operands,Call.operands,ho])
 rw [hf] at hfv
 obtain ⟨vs,e,hl,hv⟩:=hfv
 refine ⟨fun _ _=>trivial,?_⟩
 rw [Oper.semAt_eq _ _ _ (by simp [ho])]
 have hrun:(execOp a.eval o).run P w= .ok (.enter f (vs.toArray++xs.map a.eval)) w:=by
  simp [execOp,ho,resolve,e,Deferred.ofValue,invoke,h.enters]
 rw [hrun]
 refine ⟨fun h=>by simp [Fr] at h,?_⟩
 have hc:Calls P f (vs.toArray++xs.map a.eval) w fun e w'=> ∃v ι' σ',e= .returned v∧VRel ι' σ' w' H' r v∧HRel ι' σ' w' H'∧Mono ι σ w H ι' σ' w' H'∧Ext σ w σ' w':=by
  have:=h.runs ι σ w (vs++xs.toList.map a.eval) hH (by simp [hl]) (fun j x u h1 h2=>by
   by_cases hj:j<vs.length
   ·rw [List.getElem?_append_left (by simp; omega)] at h1
    rw [List.getElem?_append_left hj] at h2
    simp only [List.getElem?_map] at h1
    cases hc:caps[j]? with
    | none=>simp [hc] at h1
    | some c=>simp [hc] at h1; subst h1; exact A6d (hv _ c u hc h2)
   ·rw [List.getElem?_append_right (by simp; omega)] at h1
    rw [List.getElem?_append_right (by omega)] at h2
    simp only [List.getElem?_map,List.length_map] at h1 h2
    rw [←hl] at h1
    cases hq:xs.toList[j-vs.length]? with
    | none=>simp [hq] at h1
    | some q=>
     rw [hq] at h1 h2
     simp at h1 h2
     subst h1; subst h2
     refine hx _ ?_
     have hm:=List.mem_of_getElem? hq
     simp [Op.operands,Call.operands,ho]
     exact .inr (by simpa using hm))
  rw [show (vs++xs.toList.map a.eval).toArray=vs.toArray++xs.map a.eval by apply Array.ext'; simp] at this
  exact this
 have hc2:CallsIn (Fr rd) (9-1) P f (vs.toArray++xs.map a.eval) w _:=(callsIn_wide (n:=9-1)).2 hc
 refine hc2.mono ?_
 rintro e w' ⟨v,ι',σ',rfl,h1,h2,h3,h4⟩
 exact hn v w' ι' σ' h1 h2 h3 h4
theorem A6T (t:TypeId) (x y:Operand) (ho:o.op= .slice t x (some y) none none) (e:TypeId) (hE:A0H P t=some (none,e)) (k:Nat) (hk:A0w P e=some k) (rows:List (List Tree)) (i p:Nat)
  (hx:(ρ x= .c (.slice rows (.chain i))∧p=rows.length)∨ρ x= .c (.slice rows (.tail i p))) (hi:H[i]? =some (.chain p k)) (hr: ∀r,r∈rows→r.length=k) (l:Int) (hl:bnd ρ 0 (some y)=some l) (h0:0≤l) (h1:l≤rows.length):
  AStep P rd o ρ H (.c (.slice (rows.drop l.toNat) (.tail i p))) H:=by
 refine AStep.value (by simp [ho]) fun ι σ a w hx' hH=> ?_
 have hv:=hx' x (by simp [Op.operands,ho])
 have vx:TRel (Stab σ) w (.slice rows) (a.eval x):=by
  rcases hx with ⟨hx,_⟩ | hx<;>(rw [hx] at hv; exact hv.1)
 have hsp:A7l σ w i k (a.eval x):=by
  rcases hx with ⟨hx,hp⟩ | hx
  ·rw [hx] at hv
   obtain ⟨tip,k',q1,_,_,q2⟩:=hv.2
   rw [hi] at q1; cases q1
   exact q2 hp.symm
  ·rw [hx] at hv
   obtain ⟨tip,k',q1,_,q2⟩:=hv.2
   rw [hi] at q1; cases q1
   exact q2 rfl
 obtain ⟨ad,c,ev,hc⟩: ∃ad c,a.eval x= .slice ad rows.length c∧rows.length≤c:=by
  generalize a.eval x=v at vx
  cases vx with
  | nil ad c=>exact ⟨ad,c,rfl,Nat.zero_le _⟩
  | slice b off k' c rows cell hn=>exact ⟨_,c,rfl,hn⟩
 rw [ev] at vx hsp
 have hu:=A0z hE
 have hel:P.elem t=e:=B1n hE
 have hu':P.underlying t=some (.slice (P.elem t)):=by rw [hel]; exact hu
 have q1:=A4A (ι:=ι) (σ:=σ) (w:=w) (H:=H) (a:=a) (x:=some y) (fun y' hy=>by cases hy; exact hx' y (by simp [Op.operands,ho])) hl
 have hb:=A6e (P:=P) (w:=w) true rows.length c (lo:=some (a.eval y)) (hi:=none) (mx:=none) (l:=l) (h:=rows.length) (m:=c)
  (by rcases q1 with ⟨q,_⟩ | ⟨k,e⟩; cases q; exact .inr ⟨k,e⟩) (.inl ⟨rfl,rfl,rfl⟩) (.inl ⟨rfl,rfl⟩) h0 h1 (by omega) (by omega)
 have hs:(Instr.sliceAt t (a.eval x) (some (a.eval y)) none none).run P w= .ok (sliced ad l.toNat rows.length c k) w:=by
  rw [ev,run_sliceAt_slice w t _ _ _ _ hu',run_slice_any w t ad _ _ hu',hb,hel]
  simp only [Result.andThen_ok,A1P hk,Int.toNat_natCast]
 refine ⟨sliced ad l.toNat rows.length c k,by simp only [execOp,ho,Sem.run_bind,Option.map_some,Option.map_none,hs,Result.andThen_ok,Sem.run_pure],?_,p,k,hi,Nat.le_refl _,fun _=> ?_⟩
 ·have:=vx.part hr l.toNat rows.length c (by omega) (Nat.le_refl _) hc
  rwa [List.take_length] at this
 ·unfold sliced
  have hle:l.toNat≤rows.length:=by omega
  rcases hsp with hsp | ⟨hk0,b,off,rfl,hj⟩
  ·exact .inl (by rw [hsp])
  ·by_cases hcl:c=l.toNat
   ·exact .inl (by omega)
   ·rw [if_neg hcl]
    refine .inr ⟨hk0,b,off+l.toNat*k,by simp [Addr.add_mid],fun j h2 h3=> ?_⟩
    rw [Nat.sub_mul] at h2 h3
    have h4:l.toNat*k≤rows.length*k:=Nat.mul_le_mul_right _ hle
    have:=hj (j+l.toNat*k) (by omega) (by omega)
    rwa [show off+(j+l.toNat*k)=off+l.toNat*k+j by omega] at this
end ops
end Go.Sp
namespace Go.Sp
open Go.RowKit
def B3m (pos:Nat→Nat) (a b i:Nat) (o:Oper):Oper:=
 { o with after:=(o.after.toList.map (fun e=>Edge.mk (pos e.on) e.ground)++if i=b then [Edge.mk (pos a) .data] else []).toArray,guard:=none }
def A2X (pos:Nat→Nat) (a b:Nat) (ops:Array Oper):Array Oper:=
 ((List.range ops.size).map fun k=>B3m pos a b (pos k) (ops[pos k]?.getD ⟨none,.move (.tmp 0),0,"",#[],none⟩)).toArray
structure Pos (pos:Nat→Nat) (n:Nat):Prop where
 two: ∀i,pos (pos i)=i
 lt: ∀i,i<n→pos i<n
theorem Pos.id (n:Nat):Pos (fun i=>i) n:=⟨fun _=>rfl,fun _ h=>h⟩
variable {pos:Nat→Nat} {a b:Nat} {ops:Array Oper}
theorem A1F:(A2X pos a b ops).size=ops.size:=by simp [A2X]
theorem A2Y (hp:Pos pos ops.size) (i:Nat):(A2X pos a b ops)[pos i]? =(ops[i]?).map (B3m pos a b i):=by
 by_cases hi:i<ops.size
 ·have h1:=hp.lt i hi
  have e:ops[i]? =some ops[i]:=Array.getElem?_eq_getElem hi
  rw [e]
  simp [A2X,h1,hp.two i,e]
 ·have h1: ¬pos i<ops.size:=fun h=>hi (by have:=hp.lt _ h; rwa [hp.two] at this)
  rw [Array.getElem?_eq_none (xs:=A2X pos a b ops) (by rw [A1F]; omega),Array.getElem?_eq_none (xs:=ops) (by omega)]; rfl
theorem B4B (F:Fence) (n:Nat) (P:Program) (o:Oper) (pos:Nat→Nat) (a b i:Nat):(B3m pos a b i o).wpIn F n P=o.wpIn F n P:=by
 cases o; rfl
theorem A2Z (F:Fence) (n:Nat) (P:Program) (Q:Exit→Act→World→Prop) (hp:Pos pos ops.size) (hg: ∀(i:Nat) o,ops[i]? =some o→o.guard=none):
  ∀s:List Nat,wpOpsIn F n P (A2X pos a b ops) Q (s.map pos)=wpOpsIn F n P ops Q s:=by
 intro s
 induction s with
 | nil=>rfl
 | cons i s ih=>
  funext x w
  simp only [List.map_cons,wpOpsIn,A2Y hp]
  cases ho:ops[i]? with
  | none=>simp only [Option.map_none,ih]
  | some o=>
   have hgo:=hg i o ho
   have e1:Region.wanted (B3m pos a b i o) (yielded (A2X pos a b ops) x.tmps)=true:=rfl
   have e2:Region.wanted o (yielded ops x.tmps)=true:=by simp [Region.wanted,hgo]
   simp only [Option.map_some,e1,e2,if_true,ih,B4B]
def Before (a b:Nat):List Nat→List Nat→Prop
 | _,[]=>True
 | X,i::s=>(i=b→a∈X)∧Before a b (i::X) s
theorem A3a {a b:Nat}: ∀(s X:List Nat),a∈X→Before a b X s
 | [],_,_=>True.intro
 | i::s,X,h=>⟨fun _=>h,A3a s (i::X) (List.mem_cons_of_mem _ h)⟩
theorem A4t {a b:Nat} (hab:a≠b): ∀(s X:List Nat),Before a b X s∨Before b a X s
 | [],_=> .inl True.intro
 | i::s,X=>by
  by_cases h1:i=a
  ·subst h1
   exact .inl ⟨fun h=>absurd h hab,A3a s _ (by simp)⟩
  ·by_cases h2:i=b
   ·subst h2
    exact .inr ⟨fun h=>absurd h h1,A3a s _ (by simp)⟩
   ·rcases A4t hab s (i::X) with h | h
    ·exact .inl ⟨fun h'=>absurd h' h2,h⟩
    ·exact .inr ⟨fun h'=>absurd h' h1,h⟩
theorem A3b (hp:Pos pos ops.size): ∀(s X:List Nat),Sched ops X s→Before a b X s→Sched (A2X pos a b ops) (X.map pos) (s.map pos):=by
 intro s
 induction s with
 | nil=>intro X _ _; exact .nil _
 | cons i s ih=>
  intro X hs hb
  cases hs with
  | cons ho hi hd hs=>
  refine .cons (o:=B3m pos a b i _) (by rw [A2Y hp,ho]; rfl) ?_ ?_ (by have:=ih _ hs hb.2; simpa using this)
  ·intro h
   obtain ⟨j,hj,e⟩:=List.mem_map.1 h
   have:j=i:=by rw [←hp.two j,e,hp.two]
   exact hi (this▸hj)
  ·intro e he hbd
   simp only [B3m,List.mem_toArray,List.mem_append,List.mem_map] at he
   rcases he with ⟨e',he',rfl⟩ | he
   ·have:Region.binds .any e'=true:=by simpa [Region.binds] using hbd
    exact List.mem_map_of_mem (hd e' (by simpa using he') this)
   ·split at he
    ·rename_i hib
     simp only [List.mem_singleton] at he
     subst he
     exact List.mem_map_of_mem (hb.1 hib)
    ·cases he
variable {wd:Bool} {P:Program} {rd:Option Nat}
def Sim (l l':List Oper):Prop:=l.length=l'.length∧ ∀(k:Nat) o,l[k]? =some o→ ∃aft,l'[k]? =some { o with after:=aft,guard:=none }
theorem A4u {o:Oper} {aft:Array Edge} {ρ:Operand→AVal} {H H':List Blk} {rv:AVal} (h:AStep P rd o ρ H rv H'):AStep P rd { o with after:=aft,guard:=none } ρ H rv H':=by
 cases o; exact h
theorem RunD.fix {all all':Array Oper} {l:List Oper} {tm tm':List AVal} {H H':List Blk} {r:List (AVal×List Blk)} (h:RunD wd P rd all l tm H r tm' H'):
  ∀l',Sim l l'→(∀o,o∈l→o.guard=none)→RunD wd P rd all' l' tm H r tm' H':=by
 induction h with
 | nil tm H=>
  intro l' hs _
  have:l'=[]:=List.length_eq_zero_iff.1 hs.1.symm
  rw [this]; exact .nil _ _
 | cons hs hr ih=>
  rename_i o rest tm tm' H H' H'' rv l
  intro l' hsim hg
  cases l' with
  | nil=>exact absurd hsim.1 (by simp)
  | cons o' l'=>
   obtain ⟨aft,he⟩:=hsim.2 0 o rfl
   simp at he
   subst he
   have hgo:=hg o (by simp)
   have g1:gwant all tm o=some true:=by unfold gwant; rw [hgo]
   have hs':A7B wd P rd all' { o with after:=aft,guard:=none } tm H rv H':=by
    rcases hs with ⟨h1,_⟩ | ⟨_,h2⟩
    ·rw [g1] at h1; cases h1
    ·refine .inr ⟨rfl,?_⟩
     rcases h2 with ⟨a1,a2,a3,a4⟩ | ⟨a1,a2,a3⟩
     ·exact .inl ⟨a1,a2,fun H=>A4u (a3 H),a4⟩
     ·exact .inr ⟨a1,A4u a2,a3⟩
   exact .cons hs' (ih l' ⟨by simpa using hsim.1,fun k o hk=>by have:=hsim.2 (k+1) o (by simpa using hk); simpa using this⟩ (fun x hx=>hg x (List.mem_cons_of_mem _ hx)))
theorem A4v (hp:Pos pos ops.size) (l:List Oper) (hl:l.length=ops.size) (hk: ∀k:Nat,k<ops.size→l[k]? =ops[pos k]?):Sim l (A2X pos a b ops).toList:=by
 refine ⟨by rw [hl]; simp [A1F],fun k o ho=> ?_⟩
 have hlt:k<ops.size:=by have:=(List.getElem?_eq_some_iff.1 ho).1; omega
 rw [hk k hlt] at ho
 have h1:=A2Y (a:=a) (b:=b) hp (pos k)
 rw [hp.two,ho] at h1
 exact ⟨_,by rw [Array.getElem?_toList,h1]; rfl⟩
theorem A55 {tm:List AVal} {H:List Blk} (hok:A2T wd ops=true) {l:List (AVal×List Blk)} {tm':List AVal} {H':List Blk} (hr:RunD wd P rd ops ops.toList tm H l tm' H') {s:List Nat} (hs:Sched ops [] s) (hcov: ∀i,i<ops.size→i∈s)
  {Q:Exit→Act→World→Prop} {ι:List Nat} {σ:Sig} {a:Act} {w:World} (h1:TmpsRel ι σ w H tm a.tmps) (h2:HRel ι σ w H) (h3:RdOK rd σ w) {σ0:Sig} {w0:World} (hm:Mono ι σ0 w0 H ι σ w H) (he:Ext σ0 w0 σ w)
  (hq: ∀ι' σ' a' w',TmpsRel ι' σ' w' H' tm' a'.tmps→HRel ι' σ' w' H'→Mono ι σ0 w0 H ι' σ' w' H'→Ext σ0 w0 σ' w'→a'.defers=a.defers→Q .normal a' w'):wpOpsIn (Fr rd) 9 P ops Q s a w:=by
 let rv:Nat→AVal:=fun i=>((l[i]?).map (·.1)).getD (.c .any)
 let Hs:Nat→List Blk:=fun i=>match i with | 0=>H | i+1=>((l[i]?).map (·.2)).getD H
 obtain ⟨s1,s2,s3⟩:=hr.all (rv:=rv) (Hs:=Hs) (tm0:=tm) 0 (fun j=>by simp) (fun j x hj=>by simp [rv,Hs,hj]) rfl rfl
 let T:Trace wd P rd ops tm H:=⟨fun _=>true,rv,Hs,rfl,fun i o ho=>by
  have:=s1 i o (by simpa using ho)
  simp only [Nat.zero_add] at this
  exact this⟩
 have hn:ops.toList.length=ops.size:=by simp
 rw [hn] at s2 s3
 simp only [Nat.zero_add] at s2 s3
 have e0:replay (A0I ops) T.rv (mem []) ops.size tm=tm:=by
  have: ∀m,replay (A0I ops) T.rv (mem []) m tm=tm:=by
   intro m
   induction m with
   | zero=>rfl
   | succ m ih=>simp only [replay,mem,List.not_mem_nil,decide_false,Bool.false_eq_true,if_false]; exact ih
  exact this _
 refine T.sound hok Q a.defers ι σ0 w0 ?_ s [] hs (fun j o hj=>by cases hj) (fun i hi=> .inr (hcov i hi)) (by simp) ι σ a w 0 (Nat.zero_le _) (fun j hj hl=>by simp) ?_ h2 h3 hm he rfl
 ·intro ι' σ' a' w' q1 q2 q3 q4 q5
  have e3:T.Hs ops.size=H':=s3.symm
  have e2:replay (A0I ops) T.rv (fun _=>true) ops.size tm=tm':=s2.symm
  rw [e3] at q1 q2 q3
  rw [e2] at q1
  exact hq ι' σ' a' w' q1 q2 q3 q4 q5
 ·rw [e0]; exact h1
end Go.Sp
namespace Go.Sp
open Go.RowKit
def bsw (k i:Nat):Nat:=if i<k then i+k else if i<2*k then i-k else i
def bswL (k:Nat) (l:List Oper):List Oper:=(l.drop k).take k++(l.take k++l.drop (2*k))
theorem A9o (k:Nat) (l:List Oper) (i:Nat) (h:2*k≤l.length):(bswL k l)[i]? =l[bsw k i]? :=by
 have e1:((l.drop k).take k).length=k:=by simp; omega
 have e2:(l.take k).length=k:=by simp; omega
 unfold bswL Sp.bsw
 by_cases h1:i<k
 ·rw [if_pos h1,List.getElem?_append_left (by omega),List.getElem?_take_of_lt h1,List.getElem?_drop,Nat.add_comm]
 ·rw [if_neg h1,List.getElem?_append_right (by omega),e1]
  by_cases h2:i<2*k
  ·rw [if_pos h2,List.getElem?_append_left (by omega),List.getElem?_take_of_lt (by omega)]
  ·rw [if_neg h2,List.getElem?_append_right (by omega),e2,List.getElem?_drop]; congr 1; omega
theorem A5h (k:Nat) (l:List Oper) (h:2*k≤l.length):(bswL k l).length=l.length:=by
 unfold bswL; simp; omega
variable {P:Program} {rd:Option Nat} {wd:Bool}
end Go.Sp
namespace Go.Sp
open Go.RowKit
def csw (m k i:Nat):Nat:=if i<m then i else if i<m+k then i+k else if i<m+2*k then i-k else i
theorem Pos.csw {m k n:Nat} (h:m+2*k≤n):Pos (csw m k) n:=by
 refine ⟨fun i=> ?_,fun i hi=> ?_⟩
 ·unfold Sp.csw
  by_cases h0:i<m
  ·rw [if_pos h0,if_pos h0]
  ·rw [if_neg h0]
   by_cases h1:i<m+k
   ·rw [if_pos h1,if_neg (by omega),if_neg (by omega),if_pos (by omega)]; omega
   ·rw [if_neg h1]
    by_cases h2:i<m+2*k
    ·rw [if_pos h2,if_neg (by omega),if_pos (by omega)]; omega
    ·rw [if_neg h2,if_neg h0,if_neg h1,if_neg h2]
 ·unfold Sp.csw; split
  ·omega
  ·split
   ·omega
   ·split<;>omega
def cswL (m k:Nat) (l:List Oper):List Oper:=l.take m++bswL k (l.drop m)
theorem A56 (m k:Nat) (l:List Oper) (i:Nat) (h:m+2*k≤l.length):(cswL m k l)[i]? =l[csw m k i]? :=by
 have e1:(l.take m).length=m:=by simp; omega
 unfold cswL
 by_cases h0:i<m
 ·rw [List.getElem?_append_left (by omega),List.getElem?_take_of_lt h0]
  unfold csw; rw [if_pos h0]
 ·rw [List.getElem?_append_right (by omega),e1,A9o _ _ _ (by simp; omega),List.getElem?_drop]
  congr 1
  unfold csw bsw
  rw [if_neg h0]
  by_cases h1:i<m+k
  ·rw [if_pos h1,if_pos (by omega)]; omega
  ·rw [if_neg h1,if_neg (by omega)]
   by_cases h2:i<m+2*k
   ·rw [if_pos h2,if_pos (by omega)]; omega
   ·rw [if_neg h2,if_neg (by omega)]; omega
theorem A5i (m k:Nat) (l:List Oper) (h:m+2*k≤l.length):(cswL m k l).length=l.length:=by
 unfold cswL; rw [List.length_append,A5h _ _ (by simp; omega)]; simp; omega
variable {P:Program} {rd:Option Nat} {wd:Bool}
def A3P (wd:Bool) (m k a b:Nat) (ops:Array Oper):Bool:=
 decide (m+2*k≤ops.size)&&decide (a<b)&&ops.toList.all (fun o=>o.guard.isNone)&&A2T wd (A2X (fun i=>i) a b ops)&&A2T wd (A2X (csw m k) b a ops)&&A1I .any ops (A2B .any ops)&&A1I .text ops (A2B .text ops)&&A1I .gc ops (A2B .gc ops)
theorem AWp.draw2c {h:Nat} {Q:Exit→St→Prop} {id m k a b:Nat} {ops:List Oper} {tm:List AVal} {H:List Blk} (hd:A3P wd m k a b ops.toArray=true)
  {l1 l2:List (AVal×List Blk)} {tm1 tm2:List AVal} {H1 H2:List Blk}
  (hr1:RunD wd P rd ops.toArray ops tm H l1 tm1 H1) (hq1:Q .normal ⟨tm1,H1⟩)
  (hr2:RunD wd P rd ops.toArray (cswL m k ops) tm H l2 tm2 H2) (hq2:Q .normal ⟨tm2,H2⟩):AWp P rd h (.region id ops.toArray true) Q ⟨tm,H⟩:=by
 refine ⟨fun N ι σ a' w h1 h2 h3 h4=> ?_⟩
 simp only [A3P,Bool.and_eq_true,decide_eq_true_eq,List.all_eq_true] at hd
 obtain ⟨⟨⟨⟨⟨⟨⟨hp,hab⟩,hg⟩,k1⟩,k2⟩,g1⟩,g2⟩,g3⟩:=hd
 have hp':m+2*k≤ops.length:=by simpa using hp
 have hg1: ∀o,o∈ops→o.guard=none:=fun o ho=>by have:=hg o (by simpa using ho); simpa using this
 have hg2: ∀(i:Nat) o,ops.toArray[i]? =some o→o.guard=none:=fun i o ho=>hg1 o (List.mem_of_getElem? (by simpa using ho))
 refine wpIn_region_draw fun t=> ?_
 obtain ⟨c1,c2⟩:=A7a g1 g2 g3 (P.follows .mixedOrders) t
 generalize Region.schedule (P.follows .mixedOrders) ops.toArray t=s at*
 have hw:Mono ι σ w H ι σ { w with drawn:=w.drawn+1 } H:=⟨fun _ _ _ h h'=>⟨h,h'⟩,fun _ _ h=>h,fun _ tip k h=>⟨tip,k,h,MarkUp.refl _ _ _,.inr ⟨rfl,rfl,fun _ _ u h h'=>⟨h,⟨u,h'⟩,fun hf=>hf⟩⟩⟩⟩
 have hE:Ext σ w σ { w with drawn:=w.drawn+1 }:=⟨rfl,rfl,rfl,Nat.le_refl _,fun _ _ _ h h'=>⟨h,h'⟩,fun _ _ h=>⟨rfl,h⟩,fun _ _ _ h=>h,Nat.le_succ _⟩
 have hH:HRel ι σ { w with drawn:=w.drawn+1 } H:=by
  have:=(SRel.cells (w':={ w with drawn:=w.drawn+1 }) h1 (fun _=>rfl) (fun _ _ h _ _=>h) (fun g=>⟨rfl,rfl,rfl,Nat.le_refl _,fun _ _ _ h h'=>⟨h,h'⟩,fun _ _ _ _=>⟨rfl,fun _=>rfl⟩,Nat.le_succ _⟩)).heap
  exact this
 have hT:=h1.tmps.mono hw
 rcases A4t (a:=a) (b:=b) (by omega) s [] with hb | hb
 ·have hP:=Pos.id ops.toArray.size
  rw [←A2Z (a:=a) (b:=b) _ _ _ _ hP hg2]
  refine A55 k1 (hr1.fix _ (A4v hP ops (by simp) (fun k _=>by simp)) hg1) (by have:=A3b hP _ _ c1 hb; simpa using this) (fun i hi=>List.mem_map.2 ⟨i,c2 i (by rwa [A1F] at hi),rfl⟩) hT hH (h2.ext hE) hw hE ?_
  intro ι' σ' a' w' q1 q2 q3 q4 q5
  exact ⟨ι',σ',⟨tm1,H1⟩,hq1,⟨q1,q2⟩,q4,q3.take h,by rw [q5]; exact h4.ext q4⟩
 ·have hP:=Pos.csw (m:=m) (k:=k) (n:=ops.toArray.size) hp
  rw [←A2Z (a:=b) (b:=a) _ _ _ _ hP hg2]
  refine A55 k2 (hr2.fix _ (A4v hP _ (by rw [A5i _ _ _ hp']; simp) (fun k _=>by rw [A56 _ _ _ _ hp']; simp)) (fun o ho=> ?_)) (by have:=A3b hP _ _ c1 hb; simpa using this) (fun i hi=>List.mem_map.2 ⟨csw m k i,c2 _ (hP.lt i (by rwa [A1F] at hi)),hP.two i⟩) hT hH (h2.ext hE) hw hE ?_
  ·obtain ⟨j,hk⟩:=List.mem_iff_getElem?.1 ho
   rw [A56 _ _ _ _ hp'] at hk
   exact hg1 o (List.mem_of_getElem? hk)
  ·intro ι' σ' a' w' q1 q2 q3 q4 q5
   exact ⟨ι',σ',⟨tm2,H2⟩,hq2,⟨q1,q2⟩,q4,q3.take h,by rw [q5]; exact h4.ext q4⟩
theorem AWp.seq_draw2c {h:Nat} {Q:Exit→St→Prop} {id:Nat} {ops:List Oper} {y:Code} {tm:List AVal} {H:List Blk} (m k a b:Nat) (hd:A3P wd m k a b ops.toArray=true)
  (hv1: ∀K:List AVal→List Blk→Prop,(∀tm' H',AWp P rd h y Q ⟨tm',H'⟩→K tm' H')→A0T wd P ops.toArray ops tm H K)
  (hv2: ∀K:List AVal→List Blk→Prop,(∀tm' H',AWp P rd h y Q ⟨tm',H'⟩→K tm' H')→A0T wd P ops.toArray (cswL m k ops) tm H K):AWp P rd h (.seq (.region id ops.toArray true) y) Q ⟨tm,H⟩:=by
 obtain ⟨l,tm',H',h1,h2⟩:=A1B (rd:=rd) (hv1 (fun tm' H'=>AWp P rd h y Q ⟨tm',H'⟩) (fun _ _ h=>h))
 obtain ⟨l2,tm2,H2,h3,h4⟩:=A1B (rd:=rd) (hv2 (fun tm' H'=>AWp P rd h y Q ⟨tm',H'⟩) (fun _ _ h=>h))
 exact AWp.seq (AWp.draw2c hd h1 h2 h3 h4)
end Go.Sp
