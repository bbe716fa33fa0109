/- Our layer over the machine: values of a running function as plain data, and the rules by which they step; part 2. -/
import Derived.Test.YtdbdfkohpjefjaaGreatLayerA
import Derived.Lib.LazyBuf
import Derived.Maps.RangeRun
import Derived.RangeFuncNested
set_option linter.all false
namespace Go.Sp
open Go.RowKit
def B2k (P:Program) (t:TypeId):Option (TypeId×TypeId):=
 match P.underlying t with
 | some (.map k e)=>some (k,e)
 | _=>none
variable {P:Program}
def A3e {t k e:TypeId} (h:B2k P t=some (k,e)):P.underlying t=some (.map k e):=by
 unfold B2k at h;split at h
 ·rename_i h'; cases h; exact h'
 ·cases h
variable {w:World}
def A1D {r:Nat} {es:Array MapEntry} {c:Nat} (h:w.heap[r]? =some (.map es c)):(getObj r).run P w= .ok (.map es c) w:=by simp [getObj,Sem.run,h]
def A3f {r:Nat} {es:Array MapEntry} {c:Nat} {ob':Obj} (h:w.heap[r]? =some (.map es c)):(setObj r ob').run P w= .ok () (w.putObj r ob'):=by simp [setObj,Sem.run,h,World.putObj]
variable {es:List (MKey×MV)} {s:KShape}
section
variable {σ:Sig} {w:World}
def A8F (σ:Sig) (w:World) (es:List (MKey×MV)) (arr:Array MapEntry):Prop:=
 arr.size=es.length∧ ∀(j:Nat) e x,es[j]? =some e->arr[j]? =some x->x.born=j∧x.key=e.1.kv∧A3G σ w e.2 x.val
def A8F.find {arr:Array MapEntry} (h:A8F σ w es arr) {kt:TypeId} {s:KShape} (L:KeyLaw P kt s) {k:MKey} (hk:s.ok k=true) (hes: ∀e,e∈es->s.ok e.1=true) (w':World):
  (Instr.findKey kt k.kv arr.toList).run P w'= .ok ((mIdx es k).bind fun i=>(arr[i]?).map fun e=>(i,e.val)) w':=by
 have:=L.find w' k arr.toList es hk hes (by simpa using h.1) (fun j e x h1 h2=>(h.2 j e x h1 (by simpa using h2)).2.1);simpa using this
def A8F.get {arr:Array MapEntry} (h:A8F σ w es arr) {k:MKey} {i:Nat} (hi:mIdx es k=some i): ∃v x,es[i]? =some (k,v)∧arr[i]? =some x∧x.born=i∧x.key=k.kv∧A3G σ w v x.val:=by
 obtain ⟨v,hv⟩:=B2z hi;have hlt:i<arr.size:=by rw [h.1]; exact (Qx.1 hv).1
 have hx:=QZ hlt;obtain ⟨q1,q2,q3⟩:=h.2 i _ _ hv hx;exact ⟨v,_,hv,hx,q1,q2,q3⟩
def B21 {kt:TypeId} (L:KeyLaw P kt s) {k:MKey} (hk:s.ok k=true) (w:World):(Instr.keyThatStays k.kv k.kv).run P w= .ok k.kv w:=by
 exact L.stays w k hk
end
variable {σ:Sig}
section ops
variable {P:Program} {rd:Option Nat} {o:Oper} {ρ:Operand->AVal} {H:List Blk}
def B22 (t:TypeId) (ho:o.op= .makeMap t none):AStep P rd o ρ H (.c (.map H.length)) (H++[.map []]):=by
 refine AStep.turn (by simp [ho]) fun ι σ a w hx' hH=> ?_;obtain ⟨ι',σ',h1,h2,h3,h4⟩:=C3L (σ:=σ) hH (.map #[] 0) (.map []) (fun ι' σ' _ q1 q2 _=>⟨q1,#[],q2,rfl,by simp⟩);refine ⟨.map (some w.heap.size),_,ι',σ',.inl ?_,⟨_,h1,rfl⟩,h2,h3,h4⟩;simp [execOp,ho,Instr.makeMap,newObj];rfl
def B23 {ι:List Nat} (hH:HRel ι σ w H) {id:Nat} {es:List (MKey×MV)} (hid:H[id]? =some (.map es)) {v:Value} (hv:CRel ι σ w H (.map id) v):
  ∃b arr,ι[id]? =some b∧v= .map (some b)∧(∀o,σ b o= .mine id)∧w.heap[b]? =some (.map arr es.length)∧A8F σ w es arr:=by
 obtain ⟨b,hb,e⟩:=hv;obtain ⟨q1,arr,q2,q3,q4⟩:=hH.2 id _ b hid hb;exact ⟨b,arr,hb,e,q1,q2,q3,q4⟩
def A8G (t:TypeId) (x y:Operand) (ok:Bool) (ho:o.op= .lookup t x y ok) (kt et:TypeId) (ht:B2k P t=some (kt,et)) (s:KShape) (L:KeyLaw P kt s) (id:Nat) (hx:ρ x= .c (.map id)) (es:List (MKey×MV)) (hid:H[id]? =some (.map es))
  (k:MKey) (hy:A2N (ρ y)=some k) (hk:s.ok k=true) (hes: ∀e,e∈es->s.ok e.1=true) (z:Value) (hz:A01 P et=some z) (zm:MV) (hzm:B20 (A0N z)=some zm):
  AStep P rd o ρ H (if ok then .tup [A5B (A7g es k zm),.c (.bool (C1R es k))] else A5B (A7g es k zm)) H:=by
 refine AStep.value (by simp [ho]) fun ι σ a w hx' hH=> ?_;have vx:=hx' x (by simp [Op.operands,ho]);rw [hx] at vx;obtain ⟨b,arr,hb,e,hm,hob,hi⟩:=B23 hH hid vx;have ek:=A8E (hx' y (by simp [Op.operands,ho])) hy;have hzr:A3G σ w zm z:=A8i (A1n (ι:=ι) (σ:=σ) (w:=w) (H:=H) z) hzm;have hzz:(zeroValue et).run P w= .ok z w:=by
  unfold A01 at hz;cases hinf:P.info? et with
  | none=>simp [hinf] at hz
  | some i=>simp [hinf] at hz; simp [zeroValue,typeInfo,hinf,hz]
 have key: ∃v,(Instr.lookup t (a.eval x) (a.eval y) ok).run P w= .ok (if ok then .tuple #[v,.bool (C1R es k)] else v) w∧A3G σ w (A7g es k zm) v:=by
  cases hidx:mIdx es k with
  | none=>
   refine ⟨z,?_,by unfold A7g; rw [hidx]; exact hzr⟩;have hf:=hi.find L hk hes w;rw [hidx] at hf;simp [Instr.lookup,run_underlying (A3e ht),e,A1D hob,ek,L.check _ w k hk,hf,hzz,C1R,hidx]
  | some i=>
   obtain ⟨v,x1,h1,h2,_,_,h5⟩:=hi.get hidx;refine ⟨x1.val,?_,by unfold A7g; rw [hidx]; simp [h1]; exact h5⟩;have hf:=hi.find L hk hes w;rw [hidx] at hf;simp [h2] at hf;simp [Instr.lookup,run_underlying (A3e ht),e,A1D hob,ek,L.check _ w k hk,hf,C1R,hidx]
 obtain ⟨v,hr,hv⟩:=key;refine ⟨(if ok then .tuple #[v,.bool (C1R es k)] else v),by simp only [execOp,ho,Sem.run_bind,hr,Result.andThen_ok,Sem.run_pure],?_⟩;cases ok
 ·exact C1T (A4H hv)
 ·refine ⟨_,rfl,rfl,fun j x u h1 h2=> ?_⟩
  match j with
  | 0=>simp at h1 h2; subst h1; subst h2; exact A4H hv
  | 1=>simp at h1 h2; subst h1; subst h2; exact rfl
  | j+2=>simp at h1
def A8F.push {w w':World} {arr:Array MapEntry} (h:A8F σ w es arr) (hm: ∀{m v},A3G σ w m v->A3G σ w' m v) (k:MKey) (m:MV) (v:Value) (hv:A3G σ w' m v):A8F σ w' (es++[(k,m)]) (arr.push { key:=k.kv,val:=v,born:=es.length }):=by
 refine ⟨by simp [h.1],fun j e x h1 h2=> ?_⟩;by_cases hj:j<es.length
 ·rw [Qw hj] at h1;rw [Array.getElem?_push_lt (by rw [h.1]; exact hj)] at h2;obtain ⟨q1,q2,q3⟩:=h.2 j e x h1 (by rw [QZ (by rw [h.1]; exact hj)]; exact h2);exact ⟨q1,q2,hm q3⟩
 ·have hlen:=(Qx.1 h1).1;simp at hlen;have ej:j=es.length:=by omega
  subst ej;rw [<-h.1] at h2;simp at h1 h2;subst h1; subst h2;exact ⟨h.1,rfl,hv⟩
def A8F.upd {w w':World} {arr:Array MapEntry} (h:A8F σ w es arr) (hm: ∀{m v},A3G σ w m v->A3G σ w' m v) (i:Nat) (f:MapEntry->MapEntry) (e0:MKey×MV) (he0: ∀x,arr[i]? =some x->(f x).born=x.born∧(f x).key=e0.1.kv∧A3G σ w' e0.2 (f x).val):
  A8F σ w' (es.set i e0) (arr.modify i f):=by
 refine ⟨by simp [h.1],fun j e x h1 h2=> ?_⟩;rw [Qz9] at h2;by_cases hj:i=j
 ·subst hj;have hlt:i<es.length:=by have:=(Qx.1 h1).1; simpa using this
  rw [QX hlt] at h1;cases h1;rw [if_pos rfl] at h2;have hx:=QZ (show i<arr.size by rw [h.1]; exact hlt);rw [hx] at h2;cases h2;obtain ⟨q1,q2,q3⟩:=he0 _ hx;exact ⟨by rw [q1]; exact (h.2 i _ _ (Qq hlt) hx).1,q2,q3⟩
 ·rw [Qy hj] at h1;rw [if_neg hj] at h2;obtain ⟨q1,q2,q3⟩:=h.2 j e x h1 h2;exact ⟨q1,q2,hm q3⟩
def A6l (t:TypeId) (x y:Operand) (ho:o.op= .mapEntry t x y) (kt et:TypeId) (ht:B2k P t=some (kt,et)) (s:KShape) (L:KeyLaw P kt s) (id:Nat) (hx:ρ x= .c (.map id)) (es:List (MKey×MV)) (hid:H[id]? =some (.map es))
  (k:MKey) (hy:A2N (ρ y)=some k) (hk:s.ok k=true) (hes: ∀e,e∈es->s.ok e.1=true) (z:Value) (hz:A01 P et=some z) (zm:MV) (hzm:B20 (A0N z)=some zm):
  AStep P rd o ρ H (.tup [A5B (A7g es k zm),.c (.int .i64 (A8D es k))]) (H.set id (.map (C1S es k zm))):=by
 refine AStep.turn (by simp [ho]) fun ι σ a w hx' hH=> ?_;have vx:=hx' x (by simp [Op.operands,ho]);rw [hx] at vx;obtain ⟨b,arr,hb,e,hm,hob,hi⟩:=B23 hH hid vx;have ek:=A8E (hx' y (by simp [Op.operands,ho])) hy;have hzr:A3G σ w zm z:=A8i (A1n (ι:=ι) (σ:=σ) (w:=w) (H:=H) z) hzm;have hzz:(zeroValue et).run P w= .ok z w:=by
  unfold A01 at hz;cases hinf:P.info? et with
  | none=>simp [hinf] at hz
  | some i=>simp [hinf] at hz; simp [zeroValue,typeInfo,hinf,hz]
 have hf:=hi.find L hk hes w
 have tupR: ∀{w':World} {H':List Blk} {m:MV} {v:Value} {n:Nat},A3G σ w' m v->VRel ι σ w' H' (.tup [A5B m,.c (.int .i64 n)]) (.tuple #[v,goInt n]):=fun hv=>⟨_,rfl,rfl,fun j x u h1 h2=>by
  match j with
  | 0=>simp at h1 h2; subst h1; subst h2; exact A4H hv
  | 1=>simp at h1 h2; subst h1; subst h2; exact rfl
  | j+2=>simp at h1⟩
 cases hidx:mIdx es k with
 | none=>
  rw [hidx] at hf;simp at hf;have e1:C1S es k zm=es++[(k,zm)]:=by simp [C1S,C1R,hidx]
  have e2:A7g es k zm=zm:=by simp [A7g,hidx]
  have e3:A8D es k=es.length:=by simp [A8D,hidx]
  rw [e1,e2,e3];obtain ⟨h1,h2,h3⟩:=B0j (ob':= .map (arr.push { key:=k.kv,val:=z,born:=es.length }) (es.length+1)) (blk':= .map (es++[(k,zm)])) hH hid hb hm hob (by intro _ _ _; simp) (by intro _ _ _; simp) (by intro _ _; simp)
   (fun M q=>by
    obtain ⟨p1,p2⟩:=hi.push (w':=w.putObj b (.map (arr.push { key:=k.kv,val:=z,born:=es.length }) (es.length+1))) (fun h=>M.mv h) k zm z (M.mv hzr)
    exact ⟨hm,_,by simpa using q,p1,p2⟩)
  refine ⟨_,_,ι,σ,.inl ?_,tupR (h2.mv hzr),h1,h2,h3⟩;simp [execOp,ho,Instr.mapEntry,run_underlying (A3e ht),e,A1D hob,A3f hob,ek,L.check _ w k hk,hf,hzz]
 | some i=>
  obtain ⟨v,x1,g1,g2,g3,g4,g5⟩:=hi.get hidx;rw [hidx] at hf;simp [g2] at hf;have e1:C1S es k zm=es:=by simp [C1S,C1R,hidx]
  have e2:A7g es k zm=v:=by simp [A7g,hidx,g1]
  have e3:A8D es k=i:=by simp [A8D,hidx]
  rw [e1,e2,e3];have e4:es.set i (k,v)=es:=by
   apply Zq;intro j;by_cases hj:i=j
   ·subst hj; rw [QX (Qx.1 g1).1,g1]
   ·rw [Qy hj]
  obtain ⟨h1,h2,h3⟩:=B0j (ob':= .map (arr.modify i fun e=>{ e with key:=k.kv }) es.length) (blk':= .map es) hH hid hb hm hob (by intro _ _ _; simp) (by intro _ _ _; simp) (by intro _ _; simp)
   (fun M q=>by
    obtain ⟨p1,p2⟩:=hi.upd (w':=w.putObj b (.map (arr.modify i fun e=>{ e with key:=k.kv }) es.length)) (fun h=>M.mv h) i (fun e=>{ e with key:=k.kv }) (k,v) (fun x hx=>by rw [g2] at hx; cases hx; exact ⟨rfl,rfl,M.mv g5⟩);rw [e4] at p1 p2
    exact ⟨hm,_,q,p1,p2⟩)
  refine ⟨_,_,ι,σ,.inl ?_,tupR (h2.mv g5),h1,h2,h3⟩;have hst:=B21 L hk w;simp [execOp,ho,Instr.mapEntry,run_underlying (A3e ht),e,A1D hob,A3f hob,ek,L.check _ w k hk,hf,g2,g3,g4,hst]
def A8H (t:TypeId) (x y q:Operand) (ho:o.op= .entryStore t x y q) (id:Nat) (hx:ρ x= .c (.map id)) (es:List (MKey×MV)) (hid:H[id]? =some (.map es)) (j:Nat) (hy:ρ y= .c (.int .i64 (j:Int))) (hj:j<es.length) (m:MV) (hq:B20 (ρ q)=some m):
  AStep P rd o ρ H (.tup []) (H.set id (.map (C7u es j m))):=by
 refine AStep.turn (by simp [ho]) fun ι σ a w hx' hH=> ?_;have vx:=hx' x (by simp [Op.operands,ho]);rw [hx] at vx;obtain ⟨b,arr,hb,e,hm,hob,hi⟩:=B23 hH hid vx;have ey:a.eval y= .int .i64 (j:Int):=by have:=hx' y (by simp [Op.operands,ho]); rw [hy] at this; exact this
 have hmr:=A8i (hx' q (by simp [Op.operands,ho])) hq;have hja:j<arr.size:=by rw [hi.1]; exact hj
 have hfind:arr.findIdx? (fun e=>(e.born:Int)==(j:Int))=some j:=by
  rw [Array.findIdx?_eq_some_iff_getElem];refine ⟨hja,?_,fun i hij=> ?_⟩
  ·have:=(hi.2 j _ _ (Qq hj) (QZ hja)).1;simp [this]
  ·have hil:i<es.length:=by omega
   have:=(hi.2 i _ _ (Qq hil) (QZ (by omega))).1;simp [this]; omega
 have e4:C7u es j m=es.set j (es[j].1,m):=by simp [C7u,hj]
 rw [e4];obtain ⟨h1,h2,h3⟩:=B0j (ob':= .map (arr.modify j fun e=>{ e with val:=a.eval q }) es.length) (blk':= .map (es.set j (es[j].1,m))) hH hid hb hm hob (by intro _ _ _; simp) (by intro _ _ _; simp) (by intro _ _; simp)
  (fun M hh=>by
   obtain ⟨p1,p2⟩:=hi.upd (w':=w.putObj b (.map (arr.modify j fun e=>{ e with val:=a.eval q }) es.length)) (fun h=>M.mv h) j (fun e=>{ e with val:=a.eval q }) (es[j].1,m) (fun x hx=>⟨rfl,(hi.2 j _ _ (Qq hj) hx).2.1,M.mv hmr⟩)
   exact ⟨hm,_,by simpa using hh,p1,p2⟩)
 refine ⟨undef,_,ι,σ,.inr ⟨?_,rfl⟩,⟨#[],rfl,rfl,by simp⟩,h1,h2,h3⟩;simp [execOp,ho,Instr.entryStore,e,ey,A1D hob,A3f hob,hfind,asInt,asIntOf]
end ops
section ops
variable {P:Program} {rd:Option Nat} {o:Oper} {ρ:Operand->AVal} {H:List Blk}
def A9S (t:TypeId) (x y q:Operand) (ho:o.op= .mapUpdate t x y q) (kt et:TypeId) (ht:B2k P t=some (kt,et)) (s:KShape) (L:KeyLaw P kt s) (id:Nat) (hx:ρ x= .c (.map id)) (es:List (MKey×MV)) (hid:H[id]? =some (.map es))
  (k:MKey) (hy:A2N (ρ y)=some k) (hk:s.ok k=true) (hes: ∀e,e∈es->s.ok e.1=true) (m:MV) (hq:B20 (ρ q)=some m):
  AStep P rd o ρ H (.tup []) (H.set id (.map (B3X es k m))):=by
 refine AStep.turn (by simp [ho]) fun ι σ a w hx' hH=> ?_;have vx:=hx' x (by simp [Op.operands,ho]);rw [hx] at vx;obtain ⟨b,arr,hb,e,hm,hob,hi⟩:=B23 hH hid vx;have ek:=A8E (hx' y (by simp [Op.operands,ho])) hy;have hmr:=A8i (hx' q (by simp [Op.operands,ho])) hq;have hf:=hi.find L hk hes w;cases hidx:mIdx es k with
 | none=>
  rw [hidx] at hf;simp at hf;have e1:B3X es k m=es++[(k,m)]:=by simp [B3X,hidx]
  rw [e1];obtain ⟨h1,h2,h3⟩:=B0j (ob':= .map (arr.push { key:=k.kv,val:=a.eval q,born:=es.length }) (es.length+1)) (blk':= .map (es++[(k,m)])) hH hid hb hm hob (by intro _ _ _; simp) (by intro _ _ _; simp) (by intro _ _; simp)
   (fun M hh=>by
    obtain ⟨p1,p2⟩:=hi.push (w':=w.putObj b (.map (arr.push { key:=k.kv,val:=a.eval q,born:=es.length }) (es.length+1))) (fun h=>M.mv h) k m (a.eval q) (M.mv hmr)
    exact ⟨hm,_,by simpa using hh,p1,p2⟩)
  refine ⟨undef,_,ι,σ,.inr ⟨?_,rfl⟩,⟨#[],rfl,rfl,by simp⟩,h1,h2,h3⟩;simp [execOp,ho,Instr.mapUpdate,run_underlying (A3e ht),e,A1D hob,A3f hob,ek,L.check _ w k hk,hf]
 | some i=>
  obtain ⟨v,x1,g1,g2,g3,g4,g5⟩:=hi.get hidx;rw [hidx] at hf;simp [g2] at hf;have e1:B3X es k m=es.set i (k,m):=by simp [B3X,hidx]
  rw [e1];obtain ⟨h1,h2,h3⟩:=B0j (ob':= .map (arr.modify i fun e=>{ e with key:=k.kv,val:=a.eval q }) es.length) (blk':= .map (es.set i (k,m))) hH hid hb hm hob (by intro _ _ _; simp) (by intro _ _ _; simp) (by intro _ _; simp)
   (fun M hh=>by
    obtain ⟨p1,p2⟩:=hi.upd (w':=w.putObj b (.map (arr.modify i fun e=>{ e with key:=k.kv,val:=a.eval q }) es.length)) (fun h=>M.mv h) i (fun e=>{ e with key:=k.kv,val:=a.eval q }) (k,m) (fun x hx=>⟨rfl,rfl,M.mv hmr⟩)
    exact ⟨hm,_,by simpa using hh,p1,p2⟩)
  refine ⟨undef,_,ι,σ,.inr ⟨?_,rfl⟩,⟨#[],rfl,rfl,by simp⟩,h1,h2,h3⟩;have hst:=B21 L hk w;simp [execOp,ho,Instr.mapUpdate,run_underlying (A3e ht),e,A1D hob,A3f hob,ek,L.check _ w k hk,hf,g2,g3,g4,hst]
def step_range (t:TypeId) (x:Operand) (ho:o.op= .range t x) (kt et:TypeId) (ht:B2k P t=some (kt,et)) (id:Nat) (hx:ρ x= .c (.map id)) (es:List (MKey×MV)) (hid:H[id]? =some (.map es)):
  AStep P rd o ρ H (.c (.iter H.length)) (H++[.iter id es.length []]):=by
 refine AStep.turn (by simp [ho]) fun ι σ a w hx' hH=> ?_;have vx:=hx' x (by simp [Op.operands,ho]);rw [hx] at vx;obtain ⟨b,arr,hb,e,hm,hob,hi⟩:=B23 hH hid vx;obtain ⟨ι',σ',h1,h2,h3,h4⟩:=C3L (σ:=σ) hH (.mapIter (some b) es.length #[] es.length) (.iter id es.length []) (fun ι' σ' M q1 q2 _=>⟨q1,b,M.iota _ _ hb,by simpa using q2⟩);refine ⟨.pointer (some ⟨w.heap.size,0,none⟩),_,ι',σ',.inl ?_,⟨_,h1,rfl⟩,h2,h3,h4⟩;simp [execOp,ho,Instr.range,run_underlying (A3e ht),e,A1D hob,newObj];rfl
def A5s (P:Program) (ρ:Operand->AVal) (H:List Blk) (t:TypeId) (x y:Operand) (K:AVal->List Blk->Prop):Prop:=
 match A03 P t with
 | some (none,e)=>
  match A0u P e,A01 P e,A0x P e with
  | some k,some z,some by'=>
   match (A0N z).stored with
   | some zs=>
    match ρ x,ρ y with
    | .c (.int _ l),.c (.int _ c)=>0<k∧zs.length=k∧0≤l∧l≤c∧(by':Int)*c≤281474976710656∧c≤9223372036854775807∧K (.c (.ref H.length k 0 l.toNat c.toNat)) (H++[.box (A7f zs c.toNat)])
    | _,_=>False
   | none=>False
  | _,_,_=>False
 | _=>False
def A7h (ρ:Operand->AVal) (k:Nat) (rows:List (List Tree)) (lo hi mx:Option Operand) (K:AVal->Prop):Prop:=
 match bnd ρ 0 lo with
 | some l=>match bnd ρ rows.length hi with
  | some h=>match bnd ρ h mx with
   | some m=>(∀r,r∈rows->r.length=k)∧(hi=none->mx=none)∧0≤l∧l≤h∧h≤m∧m≤rows.length∧((mx.isSome=true∧m=h->K (.c (.slice ((rows.take h.toNat).drop l.toNat) .exact)))∧(¬(mx.isSome=true∧m=h)->K (.c (.slice ((rows.take h.toNat).drop l.toNat) .none))))
   | none=>False
  | none=>False
 | none=>False
def B5y (P:Program) (ρ:Operand->AVal) (t:TypeId) (x:Operand) (lo hi mx:Option Operand) (K:AVal->Prop):Prop:=
 match A03 P t with
 | some (none,e)=>
  match ρ x with
  | .c (.ref j kr off len cap)=>
   match bnd ρ 0 lo,bnd ρ len hi with
   | some l,some h=>A0u P e=some 1∧kr=1∧mx=none∧0≤l∧l≤h∧h≤cap∧len≤cap∧(l=0∨l<cap)∧K (.c (.ref j 1 (off+l.toNat) (h.toNat-l.toNat) (cap-l.toNat)))
   | _,_=>False
  | _=>
   match A0u P e,rowsOf (ρ x) with
   | some k,some rows=>A7h ρ k rows lo hi mx K
   | _,_=>False
 | _=>False
def A6m (ρ:Operand->AVal) (fn:Fn) (first xs:Array Operand) (K:AVal->Prop):Prop:=
 match fn,first.toList with
 | .func f,[]=>match (xs.toList.map ρ).mapM B0h with
  | some caps=>K (.c (.fn f caps))
  | none=>False
 | _,_=>False
def A6n (P:Program) (H:List Blk) (t:TypeId) (x y:AVal) (K:Nat->List (MKey×MV)->MKey->MV->Prop):Prop:=
 match B2k P t with
 | some (kt,et)=>
  match x with
  | .c (.map id)=>
   match H[id]? with
   | some (.map es)=>
    match A2N y,A01 P et with
    | some k,some z=>
     match B20 (A0N z) with
     | some zm=> ∃s,KeyLaw P kt s∧s.ok k=true∧(∀e,e∈es->s.ok e.1=true)∧K id es k zm
     | none=>False
    | _,_=>False
   | _=>False
  | _=>False
 | none=>False
def A4i (H:List Blk) (x y z:AVal) (K:List Blk->Prop):Prop:=
 match x,y with
 | .c (.map id),.c (.int .i64 n)=>
  match H[id]? with
  | some (.map es)=>
   match B20 z with
   | some m=> ∃j:Nat,n=j∧j<es.length∧K (H.set id (.map (C7u es j m)))
   | none=>False
  | _=>False
 | _,_=>False
def A7X {t:TypeId} {x y:Operand} {K:AVal->List Blk->Prop} (ho:o.op= .makeSlice t x y) (h:A5s P ρ H t x y K): ∃rv H',AStep P rd o ρ H rv H'∧K rv H':=by
 unfold A5s at h;split at h
 ·rename_i e hE;split at h
  ·rename_i k z by' hk hz hby
   split at h
   ·rename_i zs hzz;split at h
    ·rename_i k1 l k2 c hx hy;obtain ⟨h0,h1,h2,h3,h4,h5,h6⟩:=h;exact ⟨_,_,A9Q t x y ho e hE k hk h0 z hz zs hzz h1 by' hby k1 k2 l c hx hy h2 h3 h4 h5,h6⟩
    ·exact h.elim
   ·exact h.elim
  ·exact h.elim
 ·exact h.elim
def A7H {t:TypeId} {x:Operand} {lo hi mx:Option Operand} {K:AVal->Prop} (ho:o.op= .slice t x lo hi mx) (h:B5y P ρ t x lo hi mx K): ∃rv,(∀H,AStep P rd o ρ H rv H)∧K rv:=by
 unfold B5y A7h at h;split at h
 ·rename_i e hE;split at h
  ·rename_i j kr off len cap hx;split at h
   ·rename_i l h' hl hh;obtain ⟨q1,rfl,rfl,q2,q3,q4,q5,q6,q7⟩:=h;obtain ⟨l,rfl⟩:=Zx q2;obtain ⟨h',rfl⟩:=Zx (show 0≤h' by omega);simp only [Int.toNat_natCast] at q7;exact ⟨_,fun _=>A9R t x lo hi ho hE q1 hx hl hh (by omega) (by omega) (by omega) (by omega),q7⟩
   ·exact h.elim
  split at h
  ·rename_i k rows hk hr;split at h
   ·rename_i l hl;split at h
    ·rename_i h' hh;split at h
     ·rename_i m hm;obtain ⟨q1,q2,q3,q4,q5,q6,q7⟩:=h;refine ⟨_,fun _=>A8C t x lo hi mx ho e hE k hk rows hr q1 l h' m hl hh hm q2 q3 q4 q5 q6,?_⟩;by_cases hc:mx.isSome=true∧m=h'
      ·rw [if_pos hc]; exact q7.1 hc
      ·rw [if_neg hc]; exact q7.2 hc
     ·exact h.elim
    ·exact h.elim
   ·exact h.elim
  ·exact h.elim
 ·exact h.elim
def A4I {fn:Fn} {first xs:Array Operand} {K:AVal->Prop} (ho:o.op= .makeFunc fn first xs) (h:A6m ρ fn first xs K): ∃rv,AStep P rd o ρ H rv H∧K rv:=by
 unfold A6m at h;split at h
 ·rename_i f hf;split at h
  ·rename_i caps hc;have e1:first= #[]:=by apply JW; simpa using hf
   subst e1;exact ⟨_,B1t f xs ho caps hc,h⟩
  ·exact h.elim
 ·exact h.elim
def A5R {t:TypeId} {x y:AVal} {K:Nat->List (MKey×MV)->MKey->MV->Prop} (h:A6n P H t x y K):
  ∃kt et id es k z zm s,B2k P t=some (kt,et)∧x= .c (.map id)∧H[id]? =some (.map es)∧A2N y=some k∧A01 P et=some z∧B20 (A0N z)=some zm∧KeyLaw P kt s∧s.ok k=true∧(∀e,e∈es->s.ok e.1=true)∧K id es k zm:=by
 unfold A6n at h;split at h
 ·rename_i kt et ht;split at h
  ·rename_i id;split at h
   ·rename_i es hid;split at h
    ·rename_i k z hk hz;split at h
     ·rename_i zm hzm;obtain ⟨s,h1,h2,h3,h4⟩:=h;exact ⟨kt,et,id,es,k,z,zm,s,ht,rfl,hid,hk,hz,hzm,h1,h2,h3,h4⟩
     ·exact h.elim
    ·exact h.elim
   ·exact h.elim
  ·exact h.elim
 ·exact h.elim
def B3Y {t:TypeId} {x y:AVal} {K K':Nat->List (MKey×MV)->MKey->MV->Prop} (h:A6n P H t x y K) (hk: ∀a b c d,K a b c d->K' a b c d):A6n P H t x y K':=by
 unfold A6n at h ⊢;split at h
 ·split at h
  ·split at h
   ·split at h
    ·split at h
     ·obtain ⟨s,h1,h2,h3,h4⟩:=h; exact ⟨s,h1,h2,h3,hk _ _ _ _ h4⟩
     ·exact h.elim
    ·exact h.elim
   ·exact h.elim
  ·exact h.elim
 ·exact h.elim
def A7i {t:TypeId} {x y z:Operand} {K:List Blk->Prop} (ho:o.op= .entryStore t x y z) (h:A4i H (ρ x) (ρ y) (ρ z) K): ∃H',AStep P rd o ρ H (.tup []) H'∧K H':=by
 unfold A4i at h;split at h
 ·rename_i id n hx hy;split at h
  ·rename_i es hid;split at h
   ·rename_i m hm;obtain ⟨j,rfl,h1,h2⟩:=h;exact ⟨_,A8H t x y z ho id hx es hid j hy h1 m hm,h2⟩
   ·exact h.elim
  ·exact h.elim
 ·exact h.elim
end ops
def A8I:MKey->AVal
 | .int n=> .c (.int .i64 n)
 | .ints l=> .agg (l.map (ACell.int .i64))
 | .str s=> .c (.str s)
variable {H:List Blk}
def B0k {ι:List Nat} (k:MKey):A2F ι σ w H (A8I k) k.kv:=by
 cases k with
 | int n=>rfl
 | str s=>rfl
 | ints l=>
  refine ⟨_,rfl,by simp,fun j c u h1 h2=> ?_⟩;simp only [QQ,Wz] at h1 h2;cases hj:l[j]? with
  | none=>simp [hj] at h1
  | some n=>simp [hj] at h1 h2; subst h1; subst h2; exact rfl
variable {j:Nat}
def find_born {arr:Array MapEntry} (hj:j<arr.size) (hb: ∀i (hi:i<arr.size),arr[i].born=i):arr.find? (·.born==j)=some arr[j]:=by
 rw [Array.find?_eq_some_iff_getElem];refine ⟨by simp [hb j hj],j,hj,rfl,fun i hi=> ?_⟩;simp [hb i (by omega)]; omega
section
variable {P:Program} {rd:Option Nat} {o:Oper} {ρ:Operand->AVal} {H:List Blk}
def B6N (x:Operand) (ho:o.op= .entry x) (id m:Nat) (seen:List Nat) (es:List (MKey×MV)) (j:Nat) (e:MKey×MV) (hx:ρ x= .c (.iter id)) (h1:H[id]? =some (.iter m es.length seen)) (h2:H[m]? =some (.map es)) (hj:seen.getLast? =some j) (he:es[j]? =some e):
  AStep P rd o ρ H (.tup [A8I e.1,A5B e.2]) H:=by
 refine AStep.turn (by simp [ho]) fun ι σ a w hx' hH=> ?_;have hv:=hx' x (by simp [Op.operands,ho]);rw [hx] at hv;obtain ⟨b,hb,ev⟩:=hv;obtain ⟨_,bm,hbm,hob⟩:=hH.2 id _ b h1 hb;obtain ⟨_,arr,hmo,hsz,hent⟩:=hH.2 m _ bm h2 hbm;have hje:j<es.length:=(Qx.1 he).1;have hja:j<arr.size:=by omega
 have hborn: ∀i (hi:i<arr.size),arr[i].born=i:=fun i hi=>by
  have hie:i<es.length:=by omega
  exact (hent i _ _ (Qq hie) (QZ hi)).1
 obtain ⟨p1,p2,p3⟩:=hent j e _ he (QZ hja);have hf:=find_born hja hborn;have hbk:seen.toArray.back? =some j:=by simp [Array.back?,List.getLast?_eq_getElem?] at hj ⊢; exact hj
 refine ⟨.tuple #[arr[j].key,arr[j].val],w,ι,σ,.inl ?_,⟨_,rfl,rfl,fun i x u q1 q2=> ?_⟩,hH,Mono.refl ..,Ext.refl ..⟩
 ·have e1:(getObj b).run P w= .ok (.mapIter (some bm) es.length seen.toArray es.length) w:=by simp [getObj,Sem.run,hob]
  have e2:(getObj bm).run P w= .ok (.map arr es.length) w:=by simp [getObj,Sem.run,hmo]
  simp [execOp,ho,ev,Instr.entry,Sem.run_bind,e1,e2,hbk,hf]
 ·match i with
  | 0=>simp at q1 q2; subst q1; subst q2; rw [p2]; exact B0k _
  | 1=>simp at q1 q2; subst q1; subst q2; exact A4H p3
  | i+2=>simp at q1
def B6O (t:TypeId) (x y:Operand) (ho:o.op= .index t x y) (n:Nat) (e:TypeId) (h:A03 P t=some (some n,e)) (hs:A0u P e=some 1) (ha:A1O P e=some false)
  (cs:List ACell) (hx:ρ x= .agg cs) (k:IntKind) (i:Int) (hy:ρ y= .c (.int k i)) (h0:0≤i) (h1:i<n) (c:ACell) (hc:cs[i.toNat]? =some c):AStep P rd o ρ H (.c c) H:=by
 refine AStep.value (by simp [ho]) fun ι σ a w hx' hH=> ?_;have h':=hx' x (by simp [Op.operands,ho]);have e2:a.eval y= .int k i:=by have:=hx' y (by simp [Op.operands,ho]); rw [hy] at this; exact this
 rw [hx] at h';obtain ⟨vs,e1,hl,hv⟩:=h';have hlt:i.toNat<vs.size:=by rw [hl]; exact (Qx.1 hc).1
 refine ⟨vs[i.toNat],?_,hv _ c _ hc (QZ hlt)⟩;have e3:(Instr.index t (.agg vs) (.int k i)).run P w= .ok vs[i.toNat] w:=by
  simp [Instr.index,asIntOf,Sem.run_bind,run_underlying (A5L h),h0,h1,A1Q hs,part,B1n ha,QZ hlt]
 simp only [execOp,ho,e1,e2,Sem.run_bind,e3,Result.andThen_ok,Sem.run_pure]
end
variable {α:Type}
def A2r {k:Nat}: ∀{rows:List (List α)} {p:Nat} {t:α},(∀r,r∈rows->r.length=k)->rows.flatten[p]? =some t-> ∃i j r,p=i*k+j∧rows[i]? =some r∧r[j]? =some t:=by
 intro rows
 induction rows with
 | nil=>intro p t _ h; simp at h
 | cons r rows ih=>
  intro p t hr h;have hrl:=hr r (by simp);rw [List.flatten_cons] at h;by_cases hp:p<r.length
  ·rw [Qw hp] at h;exact ⟨0,p,r,by simp,rfl,h⟩
  ·rw [QW (by omega)] at h;obtain ⟨i,j,r',e,h1,h2⟩:=ih (fun r hr'=>hr r (by simp [hr'])) h;exact ⟨i+1,j,r',by rw [Vx]; omega,by simpa using h1,h2⟩
def flatRows (rows:List (List Tree)):List ACell:=rows.flatten.map A0v
section
variable {P:Program} {rd:Option Nat} {o:Oper} {ρ:Operand->AVal} {H:List Blk}
def A7I (w w':World) (t tx ty e:TypeId) (inf:TypeInfo) (hu:P.underlying t=some (.slice e)) (hi:P.info? e=some inf) (b off dl dc:Nat) (x:Value) (sl n:Nat) (news:List Value)
  (hlen:(Builtin.lenOf x).run P w= .ok sl w) (hn:Nat.min sl dl=n) (hfc:(Builtin.firstCells inf.size n x).run P w= .ok news.toArray w) (hst:(storeCells ⟨b,off,none⟩ news).run P w= .ok () w'):
  (Builtin.copy_ #[t,tx] ty #[.slice (some ⟨b,off,none⟩) dl dc,x]).run P w= .ok (goInt n) w':=by
 simp [Builtin.copy_,run_underlying hu,hlen,sizeOf,typeInfo,hi,hn,hfc,hst]
def A9T (x y:Operand) (t tx:TypeId) (ho:o.op= .call { callee:= .builtin .copy,args:= #[x,y],argTypes:= #[t,tx] }) {e e2:TypeId} (hE:A03 P t=some (none,e)) (hE2:A03 P tx=some (none,e2)) (hk:A0u P e=some 1)
  {j off len cap:Nat} (hx:ρ x= .c (.ref j 1 off len cap)) {rows:List (List Tree)} (hy:rowsOf (ρ y)=some rows) (hr: ∀r,r∈rows->r.length=1) {cs:List ACell} (hj:H[j]? =some (.box cs)) (hlen:rows.length≤len) (hc:off+rows.length≤cs.length):
  AStep P rd o ρ H (.c (.int .i64 rows.length)) (H.set j (.box (setMany cs off (flatRows rows)))):=by
 refine AStep.turn (by simp [ho]) fun ι σ a w hx' hH=> ?_;have vx:=hx' x (by simp [Op.operands,ho,Call.operands]);rw [hx] at vx;obtain ⟨b,hb,cap',hcap,ev⟩:=vx;have vy:=A1X (hx' y (by simp [Op.operands,ho,Call.operands])) hy;have hu:=A0w hE;obtain ⟨inf,hi,hsz⟩: ∃inf,P.info? e=some inf∧inf.size=1:=by
  unfold A0u at hk;cases hi:P.info? e with
  | none=>simp [hi] at hk
  | some inf=>simp [hi] at hk; exact ⟨inf,rfl,hk⟩
 obtain ⟨news,hsrc,hg⟩:=vy.src (P:=P) (k:=inf.size) (fun r hm=>by rw [hsz]; exact hr r hm) (by omega) (A0w hE2);have hfl:(flatRows rows).length=rows.length:=by
  unfold flatRows;rw [XW];clear hsrc hg vy hy hlen hc
  induction rows with
  | nil=>rfl
  | cons r rows ih=>rw [List.flatten_cons,Xv,hr r (by simp),ih fun r hm=>hr r (by simp [hm])]; simp; omega
 have hcr:A0I ι σ w H (flatRows rows) news.toArray:=by
  refine ⟨by rw [Vk,hsrc.newsLen,hsz,hfl]; omega,fun i c u h1 h2=> ?_⟩;simp only [flatRows,QQ] at h1;cases hx:rows.flatten[i]? with
  | none=>rw [hx] at h1; simp at h1
  | some tr=>
   rw [hx] at h1; simp at h1; subst h1;obtain ⟨i',j',r,rfl,hri,hrj⟩:=A2r hr hx;obtain ⟨u',hu',hur⟩:=hg i' r j' tr hri hrj;rw [hsz] at hu';have:u=u':=by
    have h3:news[i'*1+j']? =some u:=by simpa using h2
    rw [hu'] at h3; exact (JX h3).symm
   subst this;exact A0C hur
 obtain ⟨hin,q1,q2,q3⟩:=A4g (j:=off) hH hj hb news.toArray hcr (by rw [hfl]; exact hc);have hst:=run_storeCells_cells (P:=P) b off news 0 w (fun i hi'=>by simpa using (hin i (by simpa using hi')).1) (fun i hi'=>by simpa using (hin i (by simpa using hi')).2) hsrc.one;simp only [Nat.add_zero] at hst;have hrun:=A7I w _ t tx o.type e inf hu hi b off len cap' (a.eval y) rows.length rows.length news (hsrc.len w) (Qq6 hlen) hsrc.cells hst;refine ⟨goInt rows.length,_,ι,σ,.inl ?_,rfl,q1,q2,q3⟩;rw [<-ev] at hrun;simp [execOp,ho,resolve,invoke,builtin,hrun]
def A9U (x y:Operand) (t tx:TypeId) (ho:o.op= .call { callee:= .builtin .copy,args:= #[x,y],argTypes:= #[t,tx] }) {e e2:TypeId} (hE:A03 P t=some (none,e)) (hE2:A03 P tx=some (none,e2)) (hk:A0u P e=some 1)
  {j off cap:Nat} (hx:ρ x= .c (.ref j 1 off 0 cap)) {rows:List (List Tree)} (hy:rowsOf (ρ y)=some rows):AStep P rd o ρ H (.c (.int .i64 0)) H:=by
 refine AStep.value (by simp [ho]) fun ι σ a w hx' hH=> ?_;have vx:=hx' x (by simp [Op.operands,ho,Call.operands]);rw [hx] at vx;obtain ⟨b,hb,cap',hcap,ev⟩:=vx;have vy:=A1X (hx' y (by simp [Op.operands,ho,Call.operands])) hy;obtain ⟨ad,n,c,ev2⟩: ∃ad n c,a.eval y= .slice ad n c:=by
  generalize a.eval y=v at vy;cases vy with
  | nil ad c=>exact ⟨ad,_,c,rfl⟩
  | slice b off k' c rows cell hn=>exact ⟨_,_,c,rfl⟩
 have hrun:=run_copy_none (P:=P) w t tx o.type e (some ⟨b,off,none⟩) ad 0 cap' n c (A0w hE) (by unfold A0u at hk; exact hk) (Nat.min_zero n);refine ⟨goInt 0,?_,rfl⟩;rw [<-ev,<-ev2] at hrun;simp [execOp,ho,resolve,invoke,builtin,hrun]
def B1u (x y:Operand) (t tx:TypeId) (ho:o.op= .call { callee:= .builtin .copy,args:= #[x,y],argTypes:= #[t,tx] }) {e:TypeId} (hE:A03 P t=some (none,e)) (hk:A0u P e=some 1)
  {j off len cap off2 len2 cap2:Nat} (hx:ρ x= .c (.ref j 1 off len cap)) (hy:ρ y= .c (.ref j 1 off2 len2 cap2)) {cs:List ACell} (hj:H[j]? =some (.box cs)) {n:Nat} (hn:Nat.min len2 len=n) (hc:off+n≤cs.length) (hc2:off2+n≤cs.length)
  (hany: ∀c,c∈(cs.drop off2).take n->c≠ .any):
  AStep P rd o ρ H (.c (.int .i64 n)) (H.set j (.box (setMany cs off ((cs.drop off2).take n)))):=by
 refine AStep.turn (by simp [ho]) fun ι σ a w hx' hH=> ?_;have vx:=hx' x (by simp [Op.operands,ho,Call.operands]);rw [hx] at vx;obtain ⟨b,hb,cap',hcap,ev⟩:=vx;have vy:=hx' y (by simp [Op.operands,ho,Call.operands]);rw [hy] at vy;obtain ⟨b',hb',cap2',hcap2,ev2⟩:=vy;rw [hb] at hb';cases hb';have hu:=A0w hE;obtain ⟨inf,hi,hsz⟩: ∃inf,P.info? e=some inf∧inf.size=1:=by
  unfold A0u at hk;cases hi:P.info? e with
  | none=>simp [hi] at hk
  | some inf=>simp [hi] at hk; exact ⟨inf,rfl,hk⟩
 have hblk:=hH.2 j _ b hj hb;have hcell: ∀i,i<n-> ∃v,w.cell? ⟨b,off2+i,none⟩=some v∧CRel ι σ w H (cs.getD (off2+i) .any) v:=fun i hi'=>by
  obtain ⟨_,_,v,q3,q4⟩:=hblk.2 (off2+i) (cs.getD (off2+i) .any) (by rw [Qz,Qq (by omega)]; rfl);exact ⟨v,q3,q4⟩
 let news:List Value:=(List.range n).map fun i=>(w.cell? ⟨b,off2+i,none⟩).getD undef;have hnl:news.length=n:=by simp [news]
 have hng: ∀i,i<n->news[i]? =w.cell? ⟨b,off2+i,none⟩:=fun i hi'=>by
  obtain ⟨v,q,_⟩:=hcell i hi';simp only [news,QQ,Yv hi',Option.map_some,q,Option.getD_some]
 have hcr:A0I ι σ w H ((cs.drop off2).take n) news.toArray:=by
  refine ⟨by simp [hnl]; omega,fun i c u h1 h2=> ?_⟩;have hil:i<n:=by have:=(Qx.1 h1).1; simp at this; omega
  obtain ⟨v,q1,q2⟩:=hcell i hil;have h3:news[i]? =some u:=by simpa using h2
  rw [hng i hil,q1] at h3;cases h3;rw [List.getElem?_take,if_pos hil,YX] at h1;rw [Qz,h1] at q2;exact q2
 have hone: ∀v∈news,v.oneCell'=true:=fun v hv=>by
  obtain ⟨i,hi',e⟩:=Jk.1 hv;have hil:i<((cs.drop off2).take n).length:=by simp; omega
  have e':news.toArray[i]? =some v:=by rw [<-e]; simp
  exact (hcr.2 i _ v (Qq hil) e').one (hany _ (Xw hil))
 obtain ⟨hin,q1,q2,q3⟩:=A4g (j:=off) hH hj hb news.toArray hcr (by simp; omega);have hst:=run_storeCells_cells (P:=P) b off news 0 w (fun i hi'=>by simpa using (hin i (by simpa using hi')).1) (fun i hi'=>by simpa using (hin i (by simpa using hi')).2) hone;simp only [Nat.add_zero] at hst
 have hfc:=run_firstCells_some (P:=P) w inf.size n ⟨b,off2,none⟩ len2 cap2' news (by rw [hnl,hsz]; omega) (fun i u hu'=>by
  have hi':i<n:=by have:=(Qx.1 hu').1; omega
  rw [hng i hi'] at hu'
  simpa [Addr.add_lit] using hu')
 rw [<-ev2] at hfc;have hlen:(Builtin.lenOf (a.eval y)).run P w= .ok len2 w:=by rw [ev2]; rfl
 have hrun:=A7I w _ t tx o.type e inf hu hi b off len cap' (a.eval y) len2 n news hlen hn hfc hst;refine ⟨goInt n,_,ι,σ,.inl ?_,rfl,q1,q2,q3⟩;rw [<-ev] at hrun;simp [execOp,ho,resolve,invoke,builtin,hrun]
end
section
variable {P:Program} {rd:Option Nat} {o:Oper} {ρ:Operand->AVal} {H H':List Blk}
def AStep.bridge {rv:AVal} (hb: ∀ι σ (a:Act) w,(∀x,x∈o.op.operands->VRel ι σ w H (ρ x) (a.eval x))->HRel ι σ w H-> ∃ρ' rv',(∀x,x∈o.op.operands->VRel ι σ w H (ρ' x) (a.eval x))∧AStep P rd o ρ' H rv' H'∧
  ∀ι' σ' w' v,Mono ι σ w H ι' σ' w' H'->VRel ι' σ' w' H' rv' v->VRel ι' σ' w' H' rv v):AStep P rd o ρ H rv H':=by
 intro ι σ a w hx hH hrd next Q hn;obtain ⟨ρ',rv',h1,h2,h3⟩:=hb ι σ a w hx hH;exact h2 ι σ a w h1 hH hrd next Q fun v w' ι' σ' q1 q2 q3 q4=>hn v w' ι' σ' (h3 _ _ _ _ q3 q1) q2 q3 q4
end
variable {rs:List (List ACap)}
section
variable {ι ι':List Nat} {σ σ':Sig} {w w':World} {H H':List Blk}
def KRel.one {c:ACap} {v:Value} (h:KRel ι σ w c v):v.oneCell'=true:=by
 cases c with
 | ptr id off=>obtain ⟨b,_,rfl⟩:=h; rfl
 | tree t=>exact TRel.one h
 | ref id k off len cap=>obtain ⟨b,_,c',_,rfl⟩:=h; rfl
structure RawRows (ι:List Nat) (σ:Sig) (w:World) (rs:List (List ACap)) (raw:List (List Tree)):Prop where
 len:raw.length=rs.length
 row: ∀(i:Nat) (r:List Tree),raw[i]? =some r-> ∃r':List ACap,rs[i]? =some r'∧r.length=r'.length∧ ∀(j:Nat) t,r[j]? =some t-> ∃u c,t= .raw u∧r'[j]? =some c∧KRel ι σ w c u
def B5z {v:Value} (h:A7c ι σ w rs v): ∃raw,RawRows ι σ w rs raw∧TRel (Stab σ) w (.slice raw) v:=by
 obtain ⟨a,c,rfl,hlc,h⟩:=h;by_cases hne:rs=[]
 ·subst hne;exact ⟨[],⟨rfl,fun i r hr=>by simp at hr⟩,.nil a c⟩
 obtain ⟨b,off,k,rfl,hk,hc⟩:=h hne;let cell:Nat->Nat->Value:=fun i j=>(w.cell? ⟨b,off+(i*k+j),none⟩).getD undef;have hcell: ∀(i:Nat) r (j:Nat) t,rs[i]? =some r->r[j]? =some t->σ b (off+(i*k+j))= .stable∧w.cell? ⟨b,off+(i*k+j),none⟩=some (cell i j)∧KRel ι σ w t (cell i j):=fun i r j t h1 h2=>by
  obtain ⟨u,q1,q2,q3⟩:=hc i r j t h1 h2;have:cell i j=u:=by simp [cell,q2]
  rw [this]; exact ⟨q1,q2,q3⟩
 let raw:List (List Tree):=rs.mapIdx fun i r=>r.mapIdx fun j _=>Tree.raw (cell i j);have hraw: ∀(i:Nat) (r:List Tree),raw[i]? =some r-> ∃r',rs[i]? =some r'∧r=r'.mapIdx fun j _=>Tree.raw (cell i j):=fun i r hr=>by
  simp only [raw,List.getElem?_mapIdx] at hr;cases hx:rs[i]? with
  | none=>rw [hx] at hr; simp at hr
  | some r'=>rw [hx] at hr; simp at hr; exact ⟨r',rfl,hr.symm⟩
 have hget: ∀(i:Nat) (r':List ACap) (j:Nat) t,(r'.mapIdx fun j _=>Tree.raw (cell i j))[j]? =some t-> ∃c,r'[j]? =some c∧t= .raw (cell i j):=fun i r' j t ht=>by
  simp only [List.getElem?_mapIdx] at ht;cases hx:r'[j]? with
  | none=>rw [hx] at ht; simp at ht
  | some c=>rw [hx] at ht; simp at ht; exact ⟨c,rfl,ht.symm⟩
 refine ⟨raw,⟨by simp [raw],fun i r hr=> ?_⟩,?_⟩
 ·obtain ⟨r',h1,rfl⟩:=hraw i r hr;refine ⟨r',h1,by simp,fun j t ht=> ?_⟩;obtain ⟨c,h2,rfl⟩:=hget i r' j t ht;exact ⟨_,c,rfl,h2,(hcell i r' j c h1 h2).2.2⟩
 ·have e:rs.length=raw.length:=by simp [raw]
  rw [e];refine .slice b off k c raw cell (by simp [raw]; exact hlc) (fun r hr=> ?_) (fun i r j t h1 h2=> ?_) (fun i r j t h1 h2=> ?_)
  ·obtain ⟨i,hi⟩:=Zj.1 hr;obtain ⟨r',h1,rfl⟩:=hraw i r hi;simpa using hk r' (Qv h1)
  ·obtain ⟨r',h3,rfl⟩:=hraw i r h1;obtain ⟨c,h4,rfl⟩:=hget i r' j t h2;obtain ⟨q1,q2,_⟩:=hcell i r' j c h3 h4;exact ⟨q1,q2⟩
  ·obtain ⟨r',h3,rfl⟩:=hraw i r h1;obtain ⟨c,h4,rfl⟩:=hget i r' j t h2;exact .raw _ (hcell i r' j c h3 h4).2.2.one
def B1v {raw:List (List Tree)} {v:Value} (h:TRel (Stab σ) w (.slice raw) v) (R:RawRows ι σ w rs raw):A7c ι σ w rs v:=by
 cases h with
 | nil a c=>
  have:rs=[]:=ZY.1 (by rw [<-R.len]; rfl);subst this;exact ⟨a,c,rfl,Xj _,fun h=>absurd rfl h⟩
 | slice b off k c _ cell hn hk hc hr=>
  refine ⟨_,c,by rw [R.len],by rw [<-R.len]; exact hn,fun hne=>⟨b,off,k,rfl,fun r' hr'=> ?_,fun i r' j t h1 h2=> ?_⟩⟩
  ·obtain ⟨i,hi⟩:=Zj.1 hr';have hil:i<raw.length:=by rw [R.len]; exact (Qx.1 hi).1
   obtain ⟨r2,q1,q2,_⟩:=R.row i raw[i] (Qq hil);rw [hi] at q1; cases q1;rw [<-q2]; exact hk _ (Xw hil)
  ·have hil:i<raw.length:=by rw [R.len]; exact (Qx.1 h1).1
   have e1:=Qq hil;obtain ⟨r2,q1,q2,q3⟩:=R.row i raw[i] e1;rw [h1] at q1; cases q1;have hjl:j<raw[i].length:=by rw [q2]; exact (Qx.1 h2).1
   have e2:=Qq hjl;obtain ⟨u,c',q4,q5,q6⟩:=q3 j _ e2;rw [h2] at q5; cases q5;obtain ⟨s1,s2⟩:=hc i _ j _ e1 e2;have s3:=hr i _ j _ e1 e2;rw [q4] at s3;cases s3;exact ⟨_,s1,s2,q6⟩
def RawRows.mono (m:Mono ι σ w H ι' σ' w' H') {rs:List (List ACap)} {raw:List (List Tree)} (R:RawRows ι σ w rs raw):RawRows ι' σ' w' rs raw:=
 ⟨R.len,fun i r hr=>let ⟨r',h1,h2,h3⟩:=R.row i r hr; ⟨r',h1,h2,fun j t ht=>let ⟨u,c,q1,q2,q3⟩:=h3 j t ht; ⟨u,c,q1,q2,m.k q3⟩⟩⟩
def RawRows.append {rs rs2:List (List ACap)} {raw raw2:List (List Tree)} (R:RawRows ι σ w rs raw) (R2:RawRows ι σ w rs2 raw2):RawRows ι σ w (rs++rs2) (raw++raw2):=by
 refine ⟨by simp [R.len,R2.len],fun i r hr=> ?_⟩;by_cases hi:i<raw.length
 ·rw [Qw hi] at hr;obtain ⟨r',h1,h2⟩:=R.row i r hr;exact ⟨r',by rw [Qw (by rw [<-R.len]; exact hi)]; exact h1,h2⟩
 ·rw [QW (by omega)] at hr;obtain ⟨r',h1,h2⟩:=R2.row _ r hr;exact ⟨r',by rw [QW (by rw [<-R.len]; omega),<-R.len]; exact h1,h2⟩
def RawRows.k {rs:List (List ACap)} {raw:List (List Tree)} (R:RawRows ι σ w rs raw) {k:Nat} (hk: ∀r,r∈rs->r.length=k): ∀r,r∈raw->r.length=k:=fun r hr=>by
 obtain ⟨i,hi⟩:=Zj.1 hr;obtain ⟨r',h1,h2,_⟩:=R.row i r hi;rw [h2]; exact hk r' (Qv h1)
def A4A.len {rows rows2:List (List Tree)} (e:rows.length=rows2.length) {v:Value} {tok:Tok} (h:A4A σ w H rows v tok):A4A σ w H rows2 v tok:=by
 cases tok with
 | none=>exact h
 | exact=>exact h
 | chain i=>obtain ⟨tip,k,h1,h2,h3,h4⟩:=h; exact ⟨tip,k,h1,by omega,h3,fun q=>h4 (by omega)⟩
 | tail i p=>exact h
end
variable {i:Nat}
section
variable {P:Program} {rd:Option Nat} {o:Oper} {ρ:Operand->AVal} {H:List Blk}
open Classical in
def A7Y (x y:Operand) (t tx:TypeId) (ho:o.op= .call { callee:= .builtin .append,args:= #[x,y],argTypes:= #[t,tx] }) (e:TypeId) (hE:A03 P t=some (none,e)) (e2:TypeId) (hE2:A03 P tx=some (none,e2))
  (k:Nat) (hk:A0u P e=some k) (h0:0<k) (z:Value) (hz:A01 P e=some z) (zs:List ACell) (hzz:(A0N z).stored=some zs) (hzs:zs.length=k) (by':Nat) (hby:A0x P e=some by') (hxy:x≠y)
  (rs rs2:List (List ACap)) (hr1: ∀r,r∈rs->r.length=k) (hr2: ∀r,r∈rs2->r.length=k) (i:Nat) (tok:Tok) (hx:ρ x= .c (.rows rs (.chain i))) (hy:ρ y= .c (.rows rs2 tok))
  (hi:H[i]? =some (.chain rs.length k))
  (hfit:(rs.length+rs2.length)*by'≤140737488355328) (h63:rs.length+rs2.length≤4611686018427387904):
  AStep P rd o ρ H (.c (.rows (rs++rs2) (.chain i))) (H.set i (.chain (rs.length+rs2.length) k)):=by
 refine AStep.bridge fun ι σ a w hv hH=> ?_;have vx:=hv x (by simp [Op.operands,Call.operands,ho]);have vy:=hv y (by simp [Op.operands,Call.operands,ho]);rw [hx] at vx;rw [hy] at vy;obtain ⟨raw,R1,T1⟩:=B5z vx.1;obtain ⟨raw2,R2,T2⟩:=B5z vy.1;refine ⟨fun q=>if q=x then .c (.slice raw (.chain i)) else if q=y then .c (.slice raw2 .none) else ρ q,.c (.slice (raw++raw2) (.chain i)),fun q hq=> ?_,?_,?_⟩
 ·dsimp only;by_cases e1:q=x
  ·subst e1;rw [if_pos rfl];exact ⟨T1,vx.2.len (by rw [R1.len]; simp)⟩
  ·rw [if_neg e1];by_cases e2:q=y
   ·subst e2;rw [if_pos rfl];exact ⟨T2,trivial⟩
   ·rw [if_neg e2]; exact hv q hq
 ·have:=A3S (P:=P) (rd:=rd) (o:=o) (ρ:=fun q=>if q=x then .c (.slice raw (.chain i)) else if q=y then .c (.slice raw2 .none) else ρ q) (H:=H) x y t tx ho e hE e2 hE2 k hk h0 z hz zs hzz hzs by' hby raw raw2 (R1.k hr1) (R2.k hr2) i
   (by simp) (by simp [Ne.symm hxy,rowsOf]) (by rw [R1.len]; exact hi) (by rw [R1.len,R2.len]; exact hfit) (by rw [R1.len,R2.len]; exact h63)
  rw [R1.len,R2.len] at this;exact this
 ·intro ι' σ' w' v m h;have hm:=(R1.append R2).mono m;exact ⟨B1v h.1 hm,h.2.len (by simp [R1.len,R2.len])⟩
open Classical in
def A3g (t:TypeId) (x:Operand) (ho:o.op= .buildSlice t 1 #[(0,x)]) (e:TypeId) (he:A03 P t=some (none,e)) (hs:A0u P e=some 1) (z:Value) (hz:A01 P e=some z)
  (id k off l c:Nat) (hx:ρ x= .c (.ref id k off l c)):AStep P rd o ρ H (.c (.rows [[.ref id k off l c]] .exact)) H:=by
 refine AStep.bridge fun ι σ a w hv hH=> ?_;have vx:=hv x (by simp [Op.operands,ho]);rw [hx] at vx;have hone:(a.eval x).oneCell'=true:=CRel.one (ι:=ι) (σ:=σ) (w:=w) (H:=H) (c:= .ref id k off l c) vx (by simp);refine ⟨fun q=>if q=x then .c (.raw (a.eval x)) else ρ q,.c (.slice [[.raw (a.eval x)]] .exact),fun q hq=> ?_,?_,?_⟩
 ·dsimp only;by_cases e1:q=x
  ·subst e1; rw [if_pos rfl]; exact ⟨rfl,hone⟩
  ·rw [if_neg e1]; exact hv q hq
 ·have:=A2h (P:=P) (rd:=rd) (o:=o) (ρ:=fun q=>if q=x then .c (.raw (a.eval x)) else ρ q) (H:=H) t 1 #[(0,x)] ho e he 1 hs z hz [(0,[.raw (a.eval x)])] (by simp [partsOf,AVal.stored]) [.raw (a.eval x)] (by simp [A89,setMany]) [.raw (a.eval x)] (by simp [A0a]) (by decide);exact this
 ·intro ι' σ' w' v m h;refine ⟨B1v h.1 ⟨rfl,fun i r hr=> ?_⟩,h.2⟩;cases i with
  | zero=>
   simp at hr; subst hr;refine ⟨[.ref id k off l c],rfl,rfl,fun j t ht=> ?_⟩;cases j with
   | zero=>
    simp at ht; subst ht;obtain ⟨b,hb,eb⟩:=vx;exact ⟨_,_,rfl,rfl,b,m.iota _ _ hb,eb⟩
   | succ j=>simp at ht
  | succ i=>simp at hr
def A3h (t:TypeId) (x y:Operand) (ho:o.op= .indexAddr t x y) (s:Nat) (e:TypeId) (h:A03 P t=some (none,e)) (hs:A0u P e=some s)
  (rs:List (List ACap)) (tok:Tok) (hx:ρ x= .c (.rows rs tok)) (k':IntKind) (i:Int) (hy:ρ y= .c (.int k' i)) (h0:0≤i) (r:List ACap) (hr:rs[i.toNat]? =some r) (hl:r.length=s):AStep P rd o ρ H (.c (.rptrC r)) H:=by
 refine AStep.value (by simp [ho]) fun ι σ a w hv hH=> ?_;have vx:=hv x (by simp [Op.operands,ho]);have vy:=hv y (by simp [Op.operands,ho]);rw [hx] at vx;rw [hy] at vy;obtain ⟨⟨ad,c,e1,hlc,hrow⟩,_⟩:=vx;have hlt:=(Qx.1 hr).1;obtain ⟨b,off,k,rfl,hk,hc⟩:=hrow (by intro e; rw [e] at hlt; simp at hlt);have hks:k=s:=by rw [<-hl]; exact (hk r (Qv hr)).symm
 subst hks;have e2:a.eval y= .int k' i:=vy;refine ⟨.pointer (some ⟨b,off+i.toNat*k,none⟩),by simp only [execOp,ho,e1,e2,Sem.run_bind,run_indexAt_slice h hs _ _ _ _ _ _ h0 (show i<((rs.length:Nat):Int) by omega),Result.andThen_ok,Sem.run_pure],b,off+i.toNat*k,rfl,fun j t hj=> ?_⟩;obtain ⟨u,q1,q2,q3⟩:=hc i.toNat r j t hr hj;rw [Wx];exact ⟨u,q1,q2,q3⟩
def A4J (t:TypeId) (x:Operand) (ho:o.op= .load t x) (h:A1O P t=some false) (c:ACap) (cells:List ACap) (hx:ρ x= .c (.rptrC (c::cells))):AStep P rd o ρ H (.c (A0c c)) H:=by
 refine AStep.value (by simp [ho]) fun ι σ a w hv hH=> ?_;have vx:=hv x (by simp [Op.operands,ho]);rw [hx] at vx;obtain ⟨b,off,e1,hc⟩:=vx;obtain ⟨u,q1,q2,q3⟩:=hc 0 c rfl;rw [Nat.add_zero] at q1 q2;refine ⟨u,?_,A5M q3⟩;simp only [execOp,ho,e1,Sem.run_bind,A2M h q2,Result.andThen_ok,Sem.run_pure]
def A22 (neg:Bool) (t t':TypeId) (x y:Operand) (ho:o.op= .binOp (if neg then .neq else .eql) t x y t') (e:TypeId) (he:A03 P t=some (none,e)) (rows:List (List Tree)) (tok:Tok) (hx:ρ x= .c (.slice rows tok)) (hr:rows≠[]) (hy:ρ y= .c .nils):
  AStep P rd o ρ H (.c (.bool neg)) H:=by
 refine AStep.value (by simp [ho]) fun ι σ a w hv hH=> ?_;have vx:=hv x (by simp [Op.operands,ho]);have vy:=hv y (by simp [Op.operands,ho]);rw [hx] at vx;rw [hy] at vy;have e2:a.eval y= .slice none 0 0:=vy;have hu:=A0w he;obtain ⟨ad,n,c,e1⟩: ∃ad n c,a.eval x= .slice (some ad) n c:=by
  have hT:=vx.1;generalize a.eval x=v at hT;cases hT with
  | nil _ _=>exact absurd rfl hr
  | slice b off k c rows cell hn hk hc hrr=>exact ⟨_,_,_,rfl⟩
 cases neg with
 | false=>
  have hg:(eqGuard .eql t x y (.slice (some ad) n c) (.slice none 0 0)).run P w= .ok () w:=by unfold eqGuard; simp
  refine ⟨.bool false,?_,rfl⟩;simp only [execOp,ho,e1,e2,Sem.run_bind,Yk,if_false,hg,Go.run_eql_slice_nil w t e (some ad) n c hu,Result.andThen_ok,Sem.run_pure,Option.isNone_some]
 | true=>
  have hg:(eqGuard .neq t x y (.slice (some ad) n c) (.slice none 0 0)).run P w= .ok () w:=by unfold eqGuard; simp
  refine ⟨.bool true,?_,rfl⟩;simp only [execOp,ho,e1,e2,Sem.run_bind,if_true,hg,Go.run_neq_slice_nil w t e (some ad) n c hu,Result.andThen_ok,Sem.run_pure,Option.isNone_some,Qx8]
def A4j (P:Program) (ρ:Operand->AVal) (H:List Blk) (x y:Operand) (t tx:TypeId) (rs:List (List ACap)) (i:Nat) (K:AVal->List Blk->Prop):Prop:=
 match A03 P t,A03 P tx with
 | some (none,e),some (none,_)=>
  match A0u P e,A01 P e,A0x P e,ρ y with
  | some k,some z,some by',.c (.rows rs2 _)=>
   match (A0N z).stored with
   | some zs=>0<k∧zs.length=k∧x≠y∧(∀r,r∈rs2->r.length=k)∧(∀r,r∈rs->r.length=k)∧(rs.length+rs2.length)*by'≤140737488355328∧rs.length+rs2.length≤4611686018427387904∧
     match H[i]? with
     | some (.chain tip k')=>tip=rs.length∧k'=k∧K (.c (.rows (rs++rs2) (.chain i))) (H.set i (.chain (rs.length+rs2.length) k))
     | _=>False
   | none=>False
  | _,_,_,_=>False
 | _,_=>False
def A9V {x y:Operand} {t tx:TypeId} {K:AVal->List Blk->Prop} (hx:ρ x= .c (.rows rs (.chain i))) (ho:o.op= .call { callee:= .builtin .append,args:= #[x,y],argTypes:= #[t,tx] }) (h:A4j P ρ H x y t tx rs i K): ∃rv H',AStep P rd o ρ H rv H'∧K rv H':=by
 unfold A4j at h;split at h
 ·rename_i e e2 hE hE2;split at h
  ·rename_i k z by' rs2 tok hk hz hby hy;split at h
   ·rename_i zs hzz;obtain ⟨h0,h1,hxy,h2,q1,q2,q3,q4⟩:=h;split at q4
    ·rename_i tip k' hi;obtain ⟨rfl,rfl,q4⟩:=q4;exact ⟨_,_,A7Y (P:=P) (rd:=rd) (H:=H) x y t tx ho e hE e2 hE2 k' hk h0 z hz zs hzz h1 by' hby hxy rs rs2 q1 h2 i tok hx hy hi q2 q3,q4⟩
    ·exact q4.elim
   ·exact h.elim
  ·exact h.elim
 ·exact h.elim
end
def B8x (H:List Blk) (id:Nat):Option (List ACell):=(H[id]?).bind Blk.cells
def B50 (H:List Blk) (id:Nat):Option (List ACell):=
 match H[id]? with
 | some (.box cs)=>some cs
 | _=>none
def C4y (n:Nat) (cs:List ACell):Option (List ACell):=if (cs.take n).length=n then some (cs.take n) else none
def B8y (n:Nat) (cs:List Tree):Option (List Tree):=if (cs.take n).length=n then some (cs.take n) else none
def C3M (P:Program) (t:TypeId) (n:Nat):Prop:=
 (∀(xs ys:List Int) (w:World) x y,xs.length=n->ys.length=n->
  (eqGuard .eql t x y (.agg (xs.map (Value.int .i64)).toArray) (.agg (ys.map (Value.int .i64)).toArray)).run P w= .ok () w∧(eqGuard .neq t x y (.agg (xs.map (Value.int .i64)).toArray) (.agg (ys.map (Value.int .i64)).toArray)).run P w= .ok () w)∧
 ∀(xs ys:List Int) (w:World),xs.length=n->ys.length=n->
  (binOp .eql t (.agg (xs.map (Value.int .i64)).toArray) (.agg (ys.map (Value.int .i64)).toArray)).run P w= .ok (.bool (decide (xs=ys))) w∧
  (binOp .neq t (.agg (xs.map (Value.int .i64)).toArray) (.agg (ys.map (Value.int .i64)).toArray)).run P w= .ok (.bool (!decide (xs=ys))) w
def A7j:ACell->Option Int
 | .int .i64 n=>some n
 | _=>none
def C7v (P:Program) (op:BinOp) (t:TypeId) (x y:AVal) (K:ACell->Prop):Prop:=
 match x,y with
 | .c (.int k a),.c (.int k' b)=>if B1m op then 0≤b∧B2t op k a b K else k'=k∧C6l op k a b K
 | .c (.bool a),.c (.bool b)=>
  match op with
  | .eql=>P.underlying t=some .bool∧K (.bool (decide (a=b)))
  | .neq=>P.underlying t=some .bool∧K (.bool (!decide (a=b)))
  | _=>False
 | .agg xs,.agg ys=>
  ∃as bs,xs.mapM A7j=some as∧ys.mapM A7j=some bs∧C3M P t as.length∧bs.length=as.length∧
   (match op with
   | .eql=>K (.bool (decide (as=bs)))
   | .neq=>K (.bool (!decide (as=bs)))
   | _=>False)
 | .c (.slice rows _),.c .nils=>
  rows≠[]∧
   match A03 P t with
   | some (none,_)=>
    match op with
    | .eql=>K (.bool false)
    | .neq=>K (.bool true)
    | _=>False
   | _=>False
 | _,_=>False
def A5t (P:Program) (s f:Nat) (x:AVal) (K:AVal->Prop):Prop:=
 match A1z P s f with
 | some (off,ft)=>
  match A0u P ft with
  | some (_+1)=>
   match x with
   | .c (.ptr id i)=>K (.c (.ptr id (i+off)))
   | .c (.rptr cells)=>K (.c (.rptr (cells.drop off)))
   | _=>False
  | _=>False
 | none=>False
def A5u (P:Program) (t:Nat) (x y:AVal) (K:AVal->Prop):Prop:=
 match y with
 | .c (.int _ i)=>
  match A03 P t with
  | some (some n,e)=>
   match A0u P e with
   | some s=>
    match x with
    | .c (.ptr id j)=>0≤i∧i<n∧K (.c (.ptr id (j+i.toNat*s)))
    | .c (.rptr cells)=>0≤i∧i<n∧K (.c (.rptr (cells.drop (i.toNat*s))))
    | _=>False
   | none=>False
  | some (none,e)=>
   match A0u P e with
   | some s=>
    match x with
    | .c (.slice rows _)=>0≤i∧ ∃r,rows[i.toNat]? =some r∧r.length=s∧K (.c (.rptr r))
    | .c (.ref id k off len _)=>k=s∧0≤i∧i<len∧K (.c (.ptr id (off+i.toNat*s)))
    | .c (.rows rs _)=>0≤i∧ ∃r,rs[i.toNat]? =some r∧r.length=s∧K (.c (.rptrC r))
    | .c (.vec id len _)=>s=1∧0≤i∧i<len∧K (.c (.ptr id i.toNat))
    | _=>False
   | none=>False
  | none=>False
 | _=>False
def B8z (P:Program) (H:List Blk) (t:Nat) (x:AVal) (K:AVal->Prop):Prop:=
 match A1O P t with
 | some false=>
  match x with
  | .c (.ptr id j)=>
   match B8x H id with
   | some cs=> ∃c,cs[j]? =some c∧K (.c c)
   | none=>False
  | .c (.rptr (c::_))=>K (.c (A0v c))
  | .c (.rptrC (c::_))=>K (.c (A0c c))
  | _=>False
 | some true=>
  match A0u P t with
  | some n=>
   match x with
   | .c (.ptr id j)=>
    match B8x H id with
    | some cs=> ∃l,C4y n (cs.drop j)=some l∧K (.agg l)
    | none=>False
   | .c (.rptr cells)=> ∃l,B8y n cells=some l∧K (.agg (l.map A0v))
   | _=>False
  | none=>False
 | none=>False
def A4k:List ACell->Bool
 | []=>true
 | .any::_=>false
 | _::l=>A4k l
def A7J: ∀{l:List ACell},A4k l=true->C6m l:=by
 intro l
 induction l with
 | nil=>intro _ c h; cases h
 | cons a l ih=>
  intro h c hc;rcases QV.1 hc with rfl | hc
  ·rintro rfl; simp [A4k] at h
  ·refine ih ?_ c hc;cases a<;>simp [A4k] at h<;>exact h
def B80 (P:Program) (H:List Blk) (t:Nat) (x y:AVal) (K:List Blk->Prop):Prop:=
 match A0u P t with
 | some n=>
  match x with
  | .c (.ptr id j)=>
   match B50 H id with
   | some cs=>
    match y.stored with
    | some l=>A4k l=true∧l.length=n∧j+n≤cs.length∧K (H.set id (.box (setMany cs j l)))
    | none=>False
   | none=>False
  | _=>False
 | none=>False
def B51 (P:Program) (ρ:Operand->AVal) (t:Nat) (ps:List (Nat×Operand)) (K:AVal->Prop):Prop:=
 match A2l P t with
 | some (z,p)=>
  match (A0N z).stored,partsOf ρ ps with
  | some zs,some parts=> ∃cs,A89 p zs parts=some cs∧K (.agg cs)
  | _,_=>False
 | none=>False
def A4l (P:Program) (ρ:Operand->AVal) (t len:Nat) (ps:List (Nat×Operand)) (K:AVal->Prop):Prop:=
 match A03 P t with
 | some (none,e)=>
  match A0u P e,A01 P e with
  | some size,some _=>
   match partsOf ρ ps with
   | some parts=>
    match A89 (fun i=>some (i*size,size)) (List.replicate (len*size) .any) parts with
    | some cs=>
     match cs.mapM A0a with
     | some ts=>len*size≤16777216∧K (.c (.slice (chunks size len ts) .exact))
     | none=>
      match len,ps with
      | 1,[(0,x)]=>
       match ρ x with
       | .c (.ref id k off l c)=>size=1∧K (.c (.rows [[.ref id k off l c]] .exact))
       | _=>False
      | _,_=>False
    | none=>False
   | none=>False
  | _,_=>False
 | _=>False
def A7Z (P:Program) (ρ:Operand->AVal) (H:List Blk) (c:Call) (K:AVal->List Blk->Prop):Prop:=
 match c.callee with
 | .value fo=>
  match ρ fo with
  | .c (.fn f caps)=> ∃H' r,ACallH P f H (c.args.toList.map ρ++caps.map A4F) H' r∧K r H'
  | _=>False
 | .builtin .len=>
  match c.args.toList,c.argTypes.toList with
  | [x],[ty]=>
   match A03 P ty with
   | some (none,_)=>
    match ρ x with
    | .c y=> ∃n,lenOf y=some n∧K (.c (.int .i64 n)) H
    | _=>False
   | some (some n,_)=>K (.c (.int .i64 n)) H
   | none=>False
  | _,_=>False
 | .builtin .append=>
  match c.args.toList,c.argTypes.toList with
  | [x,y],[t,tx]=>
   match ρ x with
   | .c (.rows rs (.chain i))=>A4j P ρ H x y t tx rs i K
   | _=>A5Q P ρ H x y t tx K
  | _,_=>False
 | .builtin .copy=>
  match c.args.toList,c.argTypes.toList with
  | [x, y],[t,tx]=>
   match A03 P t,A03 P tx with
   | some (none,e),some (none,_)=>
    match ρ x with
    | .c (.ref j k off len _)=>
     match H[j]? with
     | some (.box cs)=>
      match ρ y with
      | .c (.ref j2 k2 off2 len2 _)=>A0u P e=some 1∧k=1∧k2=1∧j2=j∧off+Nat.min len2 len≤cs.length∧off2+Nat.min len2 len≤cs.length∧A4k ((cs.drop off2).take (Nat.min len2 len))=true∧
        K (.c (.int .i64 (Nat.min len2 len:Nat))) (H.set j (.box (setMany cs off ((cs.drop off2).take (Nat.min len2 len)))))
      | y'=>
       match rowsOf y' with
       | some rows=>A0u P e=some 1∧k=1∧if len=0 then K (.c (.int .i64 0)) H else (∀r,r∈rows->r.length=1)∧rows.length≤len∧off+rows.length≤cs.length∧K (.c (.int .i64 rows.length)) (H.set j (.box (setMany cs off (flatRows rows))))
       | none=>False
     | _=>False
    | _=>False
   | _,_=>False
  | _,_=>False
 | .builtin .max=>
  match c.args.toList with
  | [x,y]=>
   match ρ x,ρ y with
   | .c (.int k n),.c (.int k' m)=>k'=k∧K (.c (.int k (max n m))) H
   | _,_=>False
  | [x,y,z,u]=>
   match ρ x,ρ y,ρ z,ρ u with
   | .c (.int k n),.c (.int k1 m),.c (.int k2 p),.c (.int k3 q)=>k1=k∧k2=k∧k3=k∧K (.c (.int k (max (max (max n m) p) q))) H
   | _,_,_,_=>False
  | _=>False
 | .builtin .min=>
  match c.args.toList with
  | [x,y]=>
   match ρ x,ρ y with
   | .c (.int k n),.c (.int k' m)=>k'=k∧K (.c (.int k (min n m))) H
   | _,_=>False
  | _=>False
 | _=>False
def aop (P:Program) (ρ:Operand->AVal) (H:List Blk) (op:Op) (K:AVal->List Blk->Prop):Prop:=
 match op with
 | .move x=>K (ρ x) H
 | .assign x=>K (ρ x) H
 | .pick c x y=>
  match ρ c with
  | .c (.bool b)=>(b=true->K (ρ x) H)∧(b=false->K (ρ y) H)
  | _=>False
 | .unOp .not _ x=>
  match ρ x with
  | .c (.bool b)=>K (.c (.bool !b)) H
  | _=>False
 | .unOp .neg _ x=>
  match ρ x with
  | .c (.int k n)=>InK k (-n)∧K (.c (.int k (-n))) H
  | _=>False
 | .binOp op t x y _=>C7v P op t (ρ x) (ρ y) (fun c=>K (.c c) H)
 | .extract x i=>
  match ρ x with
  | .tup xs=>
   match xs[i]? with
   | some (.c c)=>K (.c c) H
   | some (.agg cs)=>K (.agg cs) H
   | _=>False
  | _=>False
 | .fieldAddr s x f=>A5t P s f (ρ x) (fun v=>K v H)
 | .indexAddr t x y=>A5u P t (ρ x) (ρ y) (fun v=>K v H)
 | .load t x=>B8z P H t (ρ x) (fun v=>K v H)
 | .store t x y=>B80 P H t (ρ x) (ρ y) (fun H'=>K (.tup []) H')
 | .alloc t=>
  match A01 P t with
  | some z=>
   match (A0N z).stored with
   | some cs=>K (.c (.ptr H.length 0)) (H++[.box cs])
   | none=>False
  | none=>False
 | .box _ x=>
  match (ρ x).stored with
  | some cs=>K (.c (.ptr H.length 0)) (H++[.box cs])
  | none=>False
 | .build t ps=>B51 P ρ t ps.toList (fun v=>K v H)
 | .buildSlice t len ps=>A4l P ρ t len ps.toList (fun v=>K v H)
 | .nilCheck x=>
  match ρ x with
  | .c (.fn _ _) | .c (.ptr _ _) | .c (.rptr _) | .c (.yld _)=>K (ρ x) H
  | _=>False
 | .convert src dst x=>
  match P.underlying src,P.underlying dst with
  | some _,some (.int k)=>
   match ρ x with
   | .c (.int _ n)=>InK k n∧K (.c (.int k n)) H
   | _=>False
  | _,_=>False
 | .makeSlice t x y=>A5s P ρ H t x y K
 | .slice t x lo hi mx=>B5y P ρ t x lo hi mx (fun v=>K v H)
 | .makeFunc fn first xs=>A6m ρ fn first xs (fun v=>K v H)
 | .makeMap _ none=>K (.c (.map H.length)) (H++[.map []])
 | .lookup t x y ok=>A6n P H t (ρ x) (ρ y) (fun _ es k zm=>K (if ok then .tup [A5B (A7g es k zm),.c (.bool (C1R es k))] else A5B (A7g es k zm)) H)
 | .mapEntry t x y=>A6n P H t (ρ x) (ρ y) (fun id es k zm=>K (.tup [A5B (A7g es k zm),.c (.int .i64 (A8D es k))]) (H.set id (.map (C1S es k zm))))
 | .entryStore _ x y z=>A4i H (ρ x) (ρ y) (ρ z) (fun H'=>K (.tup []) H')
 | .mapUpdate t x y z=>A6n P H t (ρ x) (ρ y) (fun id es k _=>match B20 (ρ z) with | some m=>K (.tup []) (H.set id (.map (B3X es k m))) | none=>False)
 | .range t x=>
  match B2k P t,ρ x with
  | some _,.c (.map id)=>
   match H[id]? with
   | some (.map es)=>K (.c (.iter H.length)) (H++[.iter id es.length []])
   | _=>False
  | _,_=>False
 | .index t x y=>
  match A03 P t,ρ x,ρ y with
  | some (some n,e),.agg cs,.c (.int _ i)=>A0u P e=some 1∧A1O P e=some false∧0≤i∧i<n∧ ∃c,cs[i.toNat]? =some c∧K (.c c) H
  | _,_,_=>False
 | .entry x=>
  match ρ x with
  | .c (.iter id)=>
   match H[id]? with
   | some (.iter m n seen)=>
    match seen.getLast?,H[m]? with
    | some j,some (.map es)=> ∃e,es[j]? =some e∧n=es.length∧K (.tup [A8I e.1,A5B e.2]) H
    | _,_=>False
   | _=>False
  | _=>False
 | .call c=>A7Z P ρ H c K
 | _=>False
variable {cs:List ACell} {tm:List AVal}
section
variable {P:Program} {rd:Option Nat} {o:Oper} {ρ:Operand->AVal} {H:List Blk}
def B0l {id:Nat} (h:B8x H id=some cs): ∃blk,H[id]? =some blk∧blk.cells=some cs:=by
 unfold B8x at h;cases hb:H[id]? with
 | none=>simp [hb] at h
 | some blk=>simp [hb] at h; exact ⟨blk,rfl,h⟩
def B3Z {id:Nat} (h:B50 H id=some cs):H[id]? =some (.box cs):=by
 unfold B50 at h;split at h
 ·rename_i cs' e; cases h; exact e
 ·cases h
def A4m (neg:Bool) (t t':TypeId) (x y:Operand) (ho:o.op= .binOp (if neg then .neq else .eql) t x y t') (xs ys:List ACell) (hx:ρ x= .agg xs) (hy:ρ y= .agg ys) (as bs:List Int)
  (ha:xs.mapM A7j=some as) (hb:ys.mapM A7j=some bs) (he:C3M P t as.length) (hl:bs.length=as.length):AStep P rd o ρ H (.c (.bool (neg ^^ decide (as=bs)))) H:=by
 refine AStep.value (by simp [ho]) fun ι σ a w hx' hH=>⟨.bool (neg ^^ decide (as=bs)),?_,rfl⟩;have key: ∀(cs:List ACell) (is:List Int) (z:Operand),cs.mapM A7j=some is->ρ z= .agg cs->z∈o.op.operands->a.eval z= .agg (is.map (Value.int .i64)).toArray:=by
  intro cs is z hm hz hmem;have h:=hx' z hmem;rw [hz] at h;obtain ⟨vs,e,hl,hv⟩:=h;obtain ⟨m1,m2⟩:=A08 hm;rw [e];congr 1;apply JW;apply Zq;intro i;by_cases hi:i<vs.size
  ·have h1:is[i]? =some is[i]:=Qq (by omega);have h2:cs[i]? =some cs[i]:=Qq (by omega);have h3:=m2 i _ _ h2 h1;have h4:=hv i _ _ h2 (QZ hi);have h5:cs[i]= .int .i64 is[i]:=by
    cases hc:cs[i]<;>rw [hc] at h3<;>simp [A7j] at h3;rename_i k n;cases k<;>simp at h3;rw [h3]
   rw [h5] at h4;have h6:vs[i]= .int .i64 is[i]:=h4;rw [WY,QZ hi,h6];simp [h1]
  ·rw [Xq (by simp; omega),Xq (by simp; omega)]
 have e1:=key xs as x ha hx (by simp [Op.operands,ho]);have e2:=key ys bs y hb hy (by simp [Op.operands,ho]);obtain ⟨g1,g2⟩:=he.1 as bs w x y rfl hl;obtain ⟨b1,b2⟩:=he.2 as bs w rfl hl;cases neg
 ·simp only [execOp,ho,e1,e2,Sem.run_bind,Yk,if_false,g1,b1,Result.andThen_ok,Sem.run_pure];simp
 ·simp only [execOp,ho,e1,e2,Sem.run_bind,if_true,g2,b2,Result.andThen_ok,Sem.run_pure];simp
def A0Y {K:AVal->List Blk->Prop} (h:aop P ρ H o.op K): ∃rv H',AStep P rd o ρ H rv H'∧K rv H':=by
 cases ho:o.op with
 | move x=>rw [ho] at h; exact ⟨_,_,A4C x (.inl ho),h⟩
 | assign x=>rw [ho] at h; exact ⟨_,_,A4C x (.inr ho),h⟩
 | pick c x y=>
  rw [ho] at h; simp only [aop] at h;split at h
  ·rename_i b hb;refine ⟨_,_,B2s c x y ho b hb,?_⟩;cases b
   ·exact h.2 rfl
   ·exact h.1 rfl
  ·exact h.elim
 | unOp op t x=>
  rw [ho] at h;cases op<;>simp only [aop] at h
  case not=>
   split at h
   ·rename_i b hb; exact ⟨_,_,B5q t x ho b hb,h⟩
   ·exact h.elim
  case neg=>
   split at h
   ·rename_i k n hb; exact ⟨_,_,B5u t x ho k n hb h.1,h.2⟩
   ·exact h.elim
 | binOp op t x y t'=>
  rw [ho] at h; simp only [aop,C7v] at h;split at h
  ·rename_i k a k' b hx hy;by_cases hs:B1m op=true
   ·rw [if_pos hs] at h;obtain ⟨rv,h1,h2⟩:=B6J (P:=P) (rd:=rd) (H:=H) (K:=fun v=>K v H) op t t' x y ho k k' a b hx hy h.1 h.2;exact ⟨rv,H,h1,h2⟩
   rw [if_neg hs] at h;obtain ⟨rfl,h⟩:=h;obtain ⟨rv,h1,h2⟩:=B8s (P:=P) (rd:=rd) (H:=H) (K:=fun v=>K v H) op t t' x y ho k' a b hx hy h;exact ⟨rv,H,h1,h2⟩
  ·rename_i a b hx hy;split at h
   ·have:=A35 (P:=P) (rd:=rd) (H:=H) t t' false x y ho h.1 a b hx hy;exact ⟨_,_,this,by simpa using h.2⟩
   ·have:=A35 (P:=P) (rd:=rd) (H:=H) t t' true x y ho h.1 a b hx hy;exact ⟨_,_,this,by simpa using h.2⟩
   ·exact h.elim
  ·rename_i xs ys hx hy;obtain ⟨as,bs,ha,hb,he,hl,h⟩:=h;split at h
   ·have:=A4m (P:=P) (rd:=rd) (H:=H) false t t' x y ho xs ys hx hy as bs ha hb he hl;exact ⟨_,_,this,by simpa using h⟩
   ·have:=A4m (P:=P) (rd:=rd) (H:=H) true t t' x y ho xs ys hx hy as bs ha hb he hl;exact ⟨_,_,this,by simpa using h⟩
   ·exact h.elim
  ·rename_i rows tok hx hy;obtain ⟨hr,h⟩:=h;split at h
   ·rename_i e he;split at h
    ·exact ⟨_,_,A22 (P:=P) (rd:=rd) (H:=H) false t t' x y ho e he rows tok hx hr hy,h⟩
    ·exact ⟨_,_,A22 (P:=P) (rd:=rd) (H:=H) true t t' x y ho e he rows tok hx hr hy,h⟩
    ·exact h.elim
   ·exact h.elim
  ·exact h.elim
 | extract x i=>
  rw [ho] at h; simp only [aop] at h;split at h
  ·rename_i xs hx;split at h
   ·rename_i c hc; exact ⟨_,_,A3y x i ho xs _ hx hc (by simp),h⟩
   ·rename_i cs hc; exact ⟨_,_,A3y x i ho xs _ hx hc (by simp),h⟩
   ·exact h.elim
  ·exact h.elim
 | fieldAddr s x f=>
  rw [ho] at h; simp only [aop,A5t] at h;split at h
  ·rename_i off ft hf;split at h
   ·rename_i n hn;split at h
    ·rename_i id i hx; exact ⟨_,_,A3z s x f ho off n ft hf hn id i hx,h⟩
    ·rename_i cells hx; exact ⟨_,_,A2Y s x f ho off n ft hf hn cells hx,h⟩
    ·exact h.elim
   ·exact h.elim
  ·exact h.elim
 | indexAddr t x y=>
  rw [ho] at h; simp only [aop,A5u] at h;split at h
  ·rename_i k i hy;split at h
   ·rename_i n e he;split at h
    ·rename_i s hs;split at h
     ·rename_i id j hx; exact ⟨_,_,A30 t x y ho n s e he hs id j hx k i hy h.1 h.2.1,h.2.2⟩
     ·rename_i cells hx; exact ⟨_,_,A2Z t x y ho n s e he hs cells hx k i hy h.1 h.2.1,h.2.2⟩
     ·exact h.elim
    ·exact h.elim
   ·rename_i e he;split at h
    ·rename_i s hs;split at h
     ·rename_i rows tok hx;obtain ⟨h0,r,hr,hl,h⟩:=h;exact ⟨_,_,A2K t x y ho s e he hs rows tok hx k i hy h0 r hr hl,h⟩
     ·rename_i id k' off len cap hx;obtain ⟨rfl,h0,h1,h⟩:=h;exact ⟨_,_,A31 t x y ho k' e he hs id off len cap hx k i hy h0 h1,h⟩
     ·rename_i rs tok hx;obtain ⟨h0,r,hr,hl,h⟩:=h;exact ⟨_,_,A3h t x y ho s e he hs rs tok hx k i hy h0 r hr hl,h⟩
     ·rename_i id len cap hx;obtain ⟨rfl,h0,h1,h⟩:=h;exact ⟨_,_,A32 t x y ho e he hs id len cap hx k i hy h0 h1,h⟩
     ·exact h.elim
    ·exact h.elim
   ·exact h.elim
  ·exact h.elim
 | load t x=>
  rw [ho] at h; simp only [aop,B8z] at h;split at h
  ·rename_i hag;split at h
   ·rename_i id j hx;split at h
    ·rename_i cs hcs;obtain ⟨c,hc,h⟩:=h;obtain ⟨blk,h1,h2⟩:=B0l hcs;exact ⟨_,_,B1o t x ho hag id j hx blk h1 cs h2 c hc,h⟩
    ·exact h.elim
   ·rename_i c cells hx; exact ⟨_,_,A5E t x ho hag c cells hx,h⟩
   ·rename_i c cells hx; exact ⟨_,_,A4J t x ho hag c cells hx,h⟩
   ·exact h.elim
  ·rename_i hag;split at h
   ·rename_i n hn;split at h
    ·rename_i id j hx;split at h
     ·rename_i cs hcs;obtain ⟨l,hl,h⟩:=h;obtain ⟨blk,h1,h2⟩:=B0l hcs;unfold C4y at hl;split at hl
      ·rename_i hlen; cases hl; exact ⟨_,_,A7d t x ho hag n hn id j hx blk h1 cs h2 hlen,h⟩
      ·cases hl
     ·exact h.elim
    ·rename_i cells hx;obtain ⟨l,hl,h⟩:=h;unfold B8y at hl;split at hl
     ·rename_i hlen; cases hl; exact ⟨_,_,A33 t x ho hag n hn cells hx hlen,h⟩
     ·cases hl
    ·exact h.elim
   ·exact h.elim
  ·exact h.elim
 | store t x y=>
  rw [ho] at h; simp only [aop,B80] at h;split at h
  ·rename_i n hn;split at h
   ·rename_i id j hx;split at h
    ·rename_i cs hcs;split at h
     ·rename_i l hl;obtain ⟨h1,h2,h3,h⟩:=h;exact ⟨_,_,B6L t x y ho n hn id j hx cs l (B3Z hcs) hl (A7J h1) h2 h3,h⟩
     ·exact h.elim
    ·exact h.elim
   ·exact h.elim
  ·exact h.elim
 | alloc t=>
  rw [ho] at h; simp only [aop] at h;split at h
  ·rename_i z hz;split at h
   ·rename_i cs hcs; exact ⟨_,_,B6K t ho z hz cs hcs,h⟩
   ·exact h.elim
  ·exact h.elim
 | box t x=>
  rw [ho] at h; simp only [aop] at h;split at h
  ·rename_i cs hcs; exact ⟨_,_,C1O t x ho cs hcs,h⟩
  ·exact h.elim
 | build t ps=>
  rw [ho] at h; simp only [aop,B51] at h;split at h
  ·rename_i z p hb;split at h
   ·rename_i zs parts hz hp;obtain ⟨cs,hf,h⟩:=h;exact ⟨_,_,B0f t ps ho z p hb zs hz parts hp cs hf,h⟩
   ·exact h.elim
  ·exact h.elim
 | buildSlice t len ps=>
  rw [ho] at h; simp only [aop,A4l] at h;split at h
  ·rename_i e he;split at h
   ·rename_i size z hs hz;split at h
    ·rename_i parts hp;split at h
     ·rename_i cs h1;split at h
      ·rename_i ts h2;exact ⟨_,_,A2h t len ps ho e he size hs z hz parts hp cs h1 ts h2 h.1,h.2⟩
      ·split at h
       ·rename_i x hps;split at h
        ·rename_i id k off l c hx;obtain ⟨rfl,h⟩:=h;have e1:ps= #[(0,x)]:=by apply JW; simpa using hps
         subst e1;exact ⟨_,_,A3g t x ho e he hs z hz id k off l c hx,h⟩
        ·exact h.elim
       ·exact h.elim
     ·exact h.elim
    ·exact h.elim
   ·exact h.elim
  ·exact h.elim
 | nilCheck x=>
  rw [ho] at h; simp only [aop] at h;split at h
  ·rename_i f caps hx; exact ⟨_,_,A4z x ho f caps hx,h⟩
  ·rename_i id j hx; exact ⟨_,_,A3O x ho id j hx,h⟩
  ·rename_i cells hx; exact ⟨_,_,A34 x ho cells hx,h⟩
  ·rename_i l hx; exact ⟨_,_,A3P x ho l hx,h⟩
  ·exact h.elim
 | convert src dst x=>
  rw [ho] at h; simp only [aop] at h;split at h
  ·rename_i d k hs hd;split at h
   ·rename_i k' n hx; exact ⟨_,_,A40 src dst x ho d hs k hd k' n hx h.1,h.2⟩
   ·exact h.elim
  ·exact h.elim
 | makeSlice t x y=>rw [ho] at h; exact A7X ho h
 | slice t x lo hi mx=>rw [ho] at h; obtain ⟨rv,h1,h2⟩:=A7H (rd:=rd) (K:=fun v=>K v H) ho h; exact ⟨rv,H,h1 H,h2⟩
 | makeFunc fn first xs=>rw [ho] at h; obtain ⟨rv,h1,h2⟩:=A4I (rd:=rd) (P:=P) (H:=H) (K:=fun v=>K v H) ho h; exact ⟨rv,H,h1,h2⟩
 | makeMap t r=>
  rw [ho] at h;cases r with
  | none=>exact ⟨_,_,B22 t ho,h⟩
  | some r=>exact h.elim
 | lookup t x y ok=>
  rw [ho] at h;obtain ⟨kt,et,id,es,k,z,zm,s,ht,hx,hid,hy,hz,hzm,L,hk,hes,h⟩:=A5R h;exact ⟨_,_,A8G t x y ok ho kt et ht s L id hx es hid k hy hk hes z hz zm hzm,h⟩
 | mapEntry t x y=>
  rw [ho] at h;obtain ⟨kt,et,id,es,k,z,zm,s,ht,hx,hid,hy,hz,hzm,L,hk,hes,h⟩:=A5R h;exact ⟨_,_,A6l t x y ho kt et ht s L id hx es hid k hy hk hes z hz zm hzm,h⟩
 | entryStore t x y z=>rw [ho] at h; obtain ⟨H',h1,h2⟩:=A7i (rd:=rd) (P:=P) ho h; exact ⟨_,H',h1,h2⟩
 | mapUpdate t x y z=>
  rw [ho] at h;obtain ⟨kt,et,id,es,k,z',zm,s,ht,hx,hid,hy,hz,hzm,L,hk,hes,h⟩:=A5R h;split at h
  ·rename_i m hm; exact ⟨_,_,A9S t x y z ho kt et ht s L id hx es hid k hy hk hes m hm,h⟩
  ·exact h.elim
 | range t x=>
  rw [ho] at h; simp only [aop] at h;split at h
  ·rename_i q id ht hx;obtain ⟨kt,et⟩:=q;split at h
   ·rename_i es hid; exact ⟨_,_,step_range t x ho kt et ht id hx es hid,h⟩
   ·exact h.elim
  ·exact h.elim
 | index t x y=>
  rw [ho] at h; simp only [aop] at h;split at h
  ·rename_i n e cs k i he hx hy;obtain ⟨h1,h2,h3,h4,c,h5,h⟩:=h;exact ⟨_,_,B6O t x y ho n e he h1 h2 cs hx k i hy h3 h4 c h5,h⟩
  ·exact h.elim
 | entry x=>
  rw [ho] at h; simp only [aop] at h;split at h
  ·rename_i id hx;split at h
   ·rename_i m n seen hid;split at h
    ·rename_i j es hj hm;obtain ⟨e,he,rfl,h⟩:=h;exact ⟨_,_,B6N x ho id m seen es j e hx hid hm hj he,h⟩
    ·exact h.elim
   ·exact h.elim
  ·exact h.elim
 | call c =>
  rw [ho] at h; simp only [aop] at h;obtain ⟨callee,args,tys⟩:=c;cases callee with
  | value fo=>
   simp only [A7Z] at h;split at h
   ·rename_i f caps hf;obtain ⟨H',r,h1,h⟩:=h;exact ⟨r,H',A3c fo args tys ho f caps hf r h1,h⟩
   ·exact h.elim
  | invoke r m=>exact h.elim
  | builtin b=>
   cases b<;>try exact h.elim
   case len=>
    simp only [A7Z] at h;split at h
    ·rename_i x ty hxs htys;have e1:args= #[x]:=by apply JW; simpa using hxs
     have e2:tys[0]? =some ty:=by rw [<-WY,htys]; rfl
     subst e1;split at h
     ·rename_i e he;split at h
      ·rename_i y hy;obtain ⟨n,hn,h⟩:=h;exact ⟨_,_,B5v x ty tys ho e2 e he y hy n hn,h⟩
      ·exact h.elim
     ·rename_i n e he; exact ⟨_,_,A5H x ty tys ho e2 e n he,h⟩
     ·exact h.elim
    ·exact h.elim
   case append=>
    simp only [A7Z] at h;split at h
    ·rename_i x y t tx hxs htys;have e1:args= #[x,y]:=by apply JW; simpa using hxs
     have e2:tys= #[t,tx]:=by apply JW; simpa using htys
     subst e1; subst e2;split at h
     ·rename_i rs i hx;exact A9V hx ho h
     ·exact B1s ho h
    ·exact h.elim
   case copy=>
    simp only [A7Z] at h;split at h
    ·rename_i x y t tx hxs htys;have e1:args= #[x,y]:=by apply JW; simpa using hxs
     have e2:tys= #[t,tx]:=by apply JW; simpa using htys
     subst e1; subst e2;split at h
     ·rename_i e e2 hE hE2;split at h
      ·rename_i j k off len cap hx;split at h
       ·rename_i cs hj;split at h
        ·rename_i j2 k2 off2 len2 cap2 hy;obtain ⟨q1,rfl,rfl,rfl,q2,q3,q4,h⟩:=h;exact ⟨_,_,B1u x y t tx ho hE q1 hx hy hj rfl q2 q3 (A7J q4),h⟩
        ·split at h
         ·rename_i rows hy;obtain ⟨q1,rfl,h⟩:=h;by_cases hl0:len=0
          ·rw [if_pos hl0] at h;subst hl0;exact ⟨_,_,A9U x y t tx ho hE hE2 q1 hx hy,h⟩
          ·rw [if_neg hl0] at h;obtain ⟨q2,q3,q4,h⟩:=h;exact ⟨_,_,A9T x y t tx ho hE hE2 q1 hx hy q2 hj q3 q4,h⟩
         ·exact h.elim
       ·exact h.elim
      ·exact h.elim
     ·exact h.elim
    ·exact h.elim
   case max=>
    simp only [A7Z] at h;split at h
    ·rename_i x y hxs;have e1:args= #[x,y]:=by apply JW; simpa using hxs
     subst e1;split at h
     ·rename_i k n k' m hx hy;obtain ⟨rfl,h⟩:=h;exact ⟨_,_,B5w x y tys ho k' n m hx hy,h⟩
     ·exact h.elim
    ·rename_i x y z u hxs;have e1:args= #[x,y,z,u]:=by apply JW; simpa using hxs
     subst e1;split at h
     ·rename_i k n k1 m k2 p k3 q hx hy hz hu;obtain ⟨h1,h2,h3,h⟩:=h;subst h1 h2 h3;exact ⟨_,_,B2w x y z u tys ho _ n m p q hx hy hz hu,h⟩
     ·exact h.elim
    ·exact h.elim
   case min=>
    simp only [A7Z] at h;split at h
    ·rename_i x y hxs;have e1:args= #[x,y]:=by apply JW; simpa using hxs
     subst e1;split at h
     ·rename_i k n k' m hx hy;obtain ⟨rfl,h⟩:=h;exact ⟨_,_,B5x x y tys ho k' n m hx hy,h⟩
     ·exact h.elim
    ·exact h.elim
 | _=>rw [ho] at h; exact h.elim
def A1U (P:Program) (all:Array Oper):List Oper->List AVal->List Blk->(List AVal->List Blk->Prop)->Prop
 | [],tm,H,K=>K tm H
 | o::rest,tm,H,K=>
  match o.guard with
  | none=>aop P (aeval tm) H o.op (fun rv H'=>A1U P all rest (A1a tm o.dst rv) H' K)
  | some (j,b)=>
   match B3T all tm j with
   | .yes b'=>(b'=b->aop P (aeval tm) H o.op (fun rv H'=>A1U P all rest (A1a tm o.dst rv) H' K))∧(b'=(!b)->A1U P all rest (A1a tm o.dst (.tup [])) H K)
   | .no=>A1U P all rest (A1a tm o.dst (.tup [])) H K
   | .unknown=>False
def A2s {all:Array Oper} {K:List AVal->List Blk->Prop}: ∀{rest:List Oper} {tm:List AVal} {H:List Blk},A1U P all rest tm H K-> ∃tm' H',Run P rd all rest tm H tm' H'∧K tm' H':=by
 intro rest
 induction rest with
 | nil=>intro tm H h; exact ⟨tm,H,.nil tm H,h⟩
 | cons o rest ih=>
  intro tm H h;have run:gwant all tm o=some true->aop P (aeval tm) H o.op (fun rv H'=>A1U P all rest (A1a tm o.dst rv) H' K)-> ∃tm' H',Run P rd all (o::rest) tm H tm' H'∧K tm' H':=by
   intro hg h;obtain ⟨rv,H1,h1,h2⟩:=A0Y (rd:=rd) h;obtain ⟨tm',H',h3,h4⟩:=ih h2;exact ⟨tm',H',.exec hg h1 h3,h4⟩
  have pass:gwant all tm o=some false->A1U P all rest (A1a tm o.dst (.tup [])) H K-> ∃tm' H',Run P rd all (o::rest) tm H tm' H'∧K tm' H':=by
   intro hg h;obtain ⟨tm',H',h3,h4⟩:=ih h;exact ⟨tm',H',.skip hg h3,h4⟩
  simp only [A1U] at h;split at h
  ·rename_i hgd; exact run (by simp [gwant,hgd]) h
  ·rename_i j b hgd;split at h
   ·rename_i b' hv;by_cases e:b'=b
    ·exact run (by simp [gwant,hgd,hv,e]) (h.1 e)
    ·exact pass (by simp [gwant,hgd,hv,e]) (h.2 (by cases b<;>cases b'<;>simp_all))
   ·rename_i hv; exact pass (by simp [gwant,hgd,hv]) h
   ·exact h.elim
variable {h:Nat} {Q:Exit->St->Prop} {st:St}
def AWp.seq_region {id:Nat} {ops:List Oper} {y:Code}
  (hv: ∀K:List AVal->List Blk->Prop,(∀tm' H',AWp P rd h y Q ⟨tm',H'⟩->K tm' H')->A1U P ops.toArray ops tm H K):AWp P rd h (.seq (.region id ops.toArray false) y) Q ⟨tm,H⟩:=by
 obtain ⟨tm',H',h1,h2⟩:=A2s (rd:=rd) (hv (fun tm' H'=>AWp P rd h y Q ⟨tm',H'⟩) (fun _ _ h=>h));exact AWp.seq (AWp.region (by simpa using h1) h2)
def AWp.last_region {id:Nat} {ops:List Oper}
  (hv: ∀K:List AVal->List Blk->Prop,(∀tm' H',Q .normal ⟨tm',H'⟩->K tm' H')->A1U P ops.toArray ops tm H K):AWp P rd h (.region id ops.toArray false) Q ⟨tm,H⟩:=by
 obtain ⟨tm',H',h1,h2⟩:=A2s (rd:=rd) (hv (fun tm' H'=>Q .normal ⟨tm',H'⟩) (fun _ _ h=>h));exact AWp.region (by simpa using h1) h2
end
section
variable {next:St->Prop} {Q:Exit->St->Prop} {s:St} {id id':Nat}
def A2G.n (h:next s):A2G next Q .normal s:=h
def A2G.r (h:Q .ret s):A2G next Q .ret s:=h
def A2G.e (h:Q (.exit id) s):A2G next Q (.exit id) s:=h
def A1x.n (h:Q .normal s):A1x id Q .normal s:=h
def A1x.r (h:Q .ret s):A1x id Q .ret s:=h
def A1x.hit (h:Q .normal s):A1x id Q (.exit id) s:=by show (if id=id then _ else _); rw [if_pos rfl]; exact h
def A1x.miss (hne:id'≠id) (h:Q (.exit id') s):A1x id Q (.exit id') s:=by show (if id'=id then _ else _); rw [if_neg hne]; exact h
end
def mask:List Bool->List AVal->List AVal
 | true::bs,v::vs=>v::mask bs vs
 | false::bs,_::vs=> .c .any::mask bs vs
 | [],vs=>vs
 | _,[]=>[]
def B4a: ∀(bs:List Bool) (vs:List AVal),(mask bs vs).length=vs.length:=by
 intro bs
 induction bs with
 | nil=>intro vs; rfl
 | cons b bs ih=>intro vs; cases vs<;>cases b<;>simp [mask,ih]
def C1U: ∀(bs:List Bool) (vs:List AVal) (t:Nat) (x:AVal),(mask bs vs)[t]? =some x->x= .c .any∨vs[t]? =some x:=by
 intro bs
 induction bs with
 | nil=>intro vs t x h; exact .inr h
 | cons b bs ih=>
  intro vs t x h;cases vs with
  | nil=>cases b<;>simp [mask] at h
  | cons v vs=>
   cases b<;>cases t<;>simp [mask] at h ⊢
   ·exact .inl h.symm
   ·exact ih vs _ x h
   ·exact .inr h
   ·exact ih vs _ x h
def Weak.mask {h:Nat} (bs:List Bool) (tm:List AVal) (H:List Blk):Weak h ⟨tm,H⟩ ⟨Sp.mask bs tm,H⟩:=by
 intro ι σ a w hr;refine ⟨ι,⟨⟨by rw [hr.tmps.1,B4a],fun t x v h1 h2=> ?_⟩,hr.heap⟩,rfl,rfl⟩;rcases C1U bs tm t x h1 with rfl | h3
 ·trivial
 ·exact hr.tmps.2 t x v h3 h2
def Weak.trans {h:Nat} {a b c:St} (h1:Weak h a b) (h2:Weak h b c):Weak h a c:=by
 intro ι σ x w hr;obtain ⟨ι',r1,e1,e2⟩:=h1 ι σ x w hr;obtain ⟨ι2,r2,e3,e4⟩:=h2 ι' σ x w r1;exact ⟨ι2,r2,e3.trans e1,e4.trans e2⟩
def B1w (m:Nat):ACap->Prop
 | .ptr id _=>id<m
 | .tree _=>True
 | .ref id _ _ _ _=>id<m
def C6n (m:Nat):Tok->Prop
 | .chain i=>i<m
 | .tail i _=>i<m
 | _=>True
def A6o (m:Nat):ACell->Prop
 | .ptr id _=>id<m
 | .ref id _ _ _ _=>id<m
 | .vec id _ _=>id<m
 | .slice _ (.chain i)=>i<m
 | .slice _ (.tail i _)=>i<m
 | .fn _ caps=> ∀c,c∈caps->B1w m c
 | .bfn _ caps=> ∀c,c∈caps->B1w m c
 | .map id=>id<m
 | .iter id=>id<m
 | .rows rs tok=>(∀r,r∈rs-> ∀c,c∈r->B1w m c)∧C6n m tok
 | .rptrC cs=> ∀c,c∈cs->B1w m c
 | _=>True
def cellsIn (m:Nat) (cs:List ACell):Prop:= ∀c,c∈cs->A6o m c
def C3N (m:Nat):AVal->Prop
 | .c x=>A6o m x
 | .agg cs=>cellsIn m cs
 | .tup _=>True
def B6P (m:Nat):AVal->Prop
 | .c x=>A6o m x
 | .agg cs=>cellsIn m cs
 | .tup xs=> ∀x,x∈xs->C3N m x
def A3T (m:Nat) (vs:List AVal):Prop:= ∀v,v∈vs->B6P m v
def blkIn (m:Nat):Blk->Prop
 | .box cs=>cellsIn m cs
 | .iter i _ _=>i<m
 | .roC cs=> ∀c,c∈cs->B1w m c
 | _=>True
def A1N (m:Nat) (H:List Blk):Prop:= ∀b,b∈H->blkIn m b
def A1p (m:Nat):cellsIn m []:=by intro c h; cases h
variable {m:Nat}
def A1e {c:ACell} (h1:A6o m c) (h2:cellsIn m cs):cellsIn m (c::cs):=by
 intro x hx; rcases QV.1 hx with rfl | hx
 ·exact h1
 ·exact h2 x hx
def A1K (m:Nat):A3T m []:=by intro c h; cases h
def A1y {c:AVal} {cs:List AVal} (h1:B6P m c) (h2:A3T m cs):A3T m (c::cs):=by
 intro x hx; rcases QV.1 hx with rfl | hx
 ·exact h1
 ·exact h2 x hx
def A15 (m:Nat):A1N m []:=by intro c h; cases h
def A04 {c:Blk} {cs:List Blk} (h1:blkIn m c) (h2:A1N m cs):A1N m (c::cs):=by
 intro x hx; rcases QV.1 hx with rfl | hx
 ·exact h1
 ·exact h2 x hx
def A1g {f:α->ACell} {l:List α} (h: ∀x,A6o m (f x)):cellsIn m (l.map f):=by
 intro c hc; obtain ⟨x,_,rfl⟩:=QY.1 hc; exact h x
section
variable {ι:List Nat} {σ:Sig} {w:World} {H:List Blk} {m:Nat}
def A4K {c:ACap} {v:Value} (hm:B1w m c) (h:KRel ι σ w c v):KRel (ι.take m) σ w c v:=by
 cases c with
 | ptr id off=>obtain ⟨b,hb,e⟩:=h; exact ⟨b,by rw [Xx hm]; exact hb,e⟩
 | tree t=>exact h
 | ref id k off len cap=>obtain ⟨b,hb,e⟩:=h; exact ⟨b,by rw [Xx hm]; exact hb,e⟩
def B81 {rows:List (List Tree)} {v:Value} {tok:Tok} (hm:C6n m tok) (h:A4A σ w H rows v tok):A4A σ w (H.take m) rows v tok:=by
 cases tok with
 | none=>exact h
 | exact=>exact h
 | chain i=>
  obtain ⟨tip,k,h2,h3⟩:=h;exact ⟨tip,k,by rw [Xx hm]; exact h2,h3⟩
 | tail i p=>
  obtain ⟨tip,k,h2,h3⟩:=h;exact ⟨tip,k,by rw [Xx hm]; exact h2,h3⟩
def A5v {c:ACell} {v:Value} (hm:A6o m c) (h:CRel ι σ w H c v):CRel (ι.take m) σ w (H.take m) c v:=by
 cases c with
 | ptr id off=>obtain ⟨b,hb,e⟩:=h; exact ⟨b,by rw [Xx hm]; exact hb,e⟩
 | ref id k off len cap=>obtain ⟨b,hb,e⟩:=h; exact ⟨b,by rw [Xx hm]; exact hb,e⟩
 | fn f caps=>obtain ⟨vs,e,hl,hv⟩:=h; exact ⟨vs,e,hl,fun i c u h1 h2=>A4K (hm c (Qv h1)) (hv i c u h1 h2)⟩
 | bfn f caps=>obtain ⟨vs,e,hl,hv⟩:=h; exact ⟨vs,e,hl,fun i c u h1 h2=>A4K (hm c (Qv h1)) (hv i c u h1 h2)⟩
 | slice rows tok=>
  cases tok with
  | none=>exact h
  | exact=>exact h
  | chain i=>
   obtain ⟨h1,tip,k,h2,h3⟩:=h;exact ⟨h1,tip,k,by rw [Xx hm]; exact h2,h3⟩
  | tail i p=>
   obtain ⟨h1,tip,k,h2,h3⟩:=h;exact ⟨h1,tip,k,by rw [Xx hm]; exact h2,h3⟩
 | any=>exact h
 | int k n=>exact h
 | bool b=>exact h
 | str s=>exact h
 | nils=>exact h
 | rptr cells=>exact h
 | yld l=>exact h
 | raw u=>exact h
 | nilf=>exact h
 | nilp=>exact h
 | map id=>obtain ⟨b,hb,e⟩:=h; exact ⟨b,by rw [Xx hm]; exact hb,e⟩
 | iter id=>obtain ⟨b,hb,e⟩:=h; exact ⟨b,by rw [Xx hm]; exact hb,e⟩
 | vec id len cap=>obtain ⟨b,hb,e⟩:=h; exact ⟨b,by rw [Xx hm]; exact hb,e⟩
 | rows rs tok=>
  obtain ⟨⟨a,c,e,hl,h1⟩,h2⟩:=h;refine ⟨⟨a,c,e,hl,fun hne=> ?_⟩,B81 hm.2 h2⟩;obtain ⟨b,off,k,q1,q2,q3⟩:=h1 hne;refine ⟨b,off,k,q1,q2,fun i r j t p1 p2=> ?_⟩;obtain ⟨u,s1,s2,s3⟩:=q3 i r j t p1 p2;exact ⟨u,s1,s2,A4K (hm.1 r (Qv p1) t (Qv p2)) s3⟩
 | rptrC cells=>
  obtain ⟨b,off,e,h⟩:=h;refine ⟨b,off,e,fun j t hj=> ?_⟩;obtain ⟨u,s1,s2,s3⟩:=h j t hj;exact ⟨u,s1,s2,A4K (hm t (Qv hj)) s3⟩
def A8J {vs:Array Value} (hm:cellsIn m cs) (h:A0I ι σ w H cs vs):A0I (ι.take m) σ w (H.take m) cs vs:=
 ⟨h.1,fun j c u h1 h2=>A5v (hm c (Qv h1)) (h.2 j c u h1 h2)⟩
def B6Q {x:AVal} {v:Value} (hm:C3N m x) (h:A2F ι σ w H x v):A2F (ι.take m) σ w (H.take m) x v:=by
 cases x with
 | c x=>exact A5v hm h
 | agg cs=>obtain ⟨vs,e,h⟩:=h; exact ⟨vs,e,A8J hm h⟩
 | tup xs=>exact h
def B24 {x:AVal} {v:Value} (hm:B6P m x) (h:VRel ι σ w H x v):VRel (ι.take m) σ w (H.take m) x v:=by
 cases x with
 | c x=>exact A5v hm h
 | agg cs=>obtain ⟨vs,e,h⟩:=h; exact ⟨vs,e,A8J hm h⟩
 | tup xs=>obtain ⟨vs,e,hl,h⟩:=h; exact ⟨vs,e,hl,fun j x u h1 h2=>B6Q (hm x (Qv h1)) (h j x u h1 h2)⟩
end
def Weak.drop {h m:Nat} (hm:h≤m) {tm:List AVal} {H:List Blk} (h1:A3T m tm) (h2:A1N m (H.take m)):Weak h ⟨tm,H⟩ ⟨tm,H.take m⟩:=by
 intro ι σ a w hr;refine ⟨ι.take m,⟨⟨hr.tmps.1,fun t x v q1 q2=>B24 (h1 x (Qv q1)) (hr.tmps.2 t x v q1 q2)⟩,by simp [hr.heap.1],fun id blk b q1 q2=> ?_⟩,by rw [List.take_take,Qq6 hm],by rw [List.take_take,Qq6 hm]⟩;obtain ⟨l1,q1'⟩:=A1T q1;obtain ⟨_,q2'⟩:=A1T q2;have:=hr.heap.2 id blk b q1' q2';have hin:=h2 blk (Qv q1);cases blk with
 | box cs=>
  obtain ⟨ha,hc⟩:=this;refine ⟨ha,fun j c hj=> ?_⟩;obtain ⟨s1,s2,v,s3,s4⟩:=hc j c hj;exact ⟨s1,s2,v,s3,A5v (hin c (Qv hj)) s4⟩
 | ro ts=>exact this
 | roC ts=>exact fun j c hj=>let ⟨s1,v,s2,s3⟩:=this j c hj; ⟨s1,v,s2,A4K (hin c (Qv hj)) s3⟩
 | chain _ _=>trivial
 | dead=>trivial
 | map es=>exact this
 | iter i n seen=>
  obtain ⟨p1,bm,p2,p3⟩:=this;exact ⟨p1,bm,by rw [Xx hin]; exact p2,p3⟩
 | ghost G=>exact this
def Weak.head {h m:Nat} (hm:h≤m) (bs:List Bool) {tm tm':List AVal} {H H':List Blk} (e1:Sp.mask bs tm=tm') (e2:H.take m=H') (h1:A3T m tm') (h2:A1N m H'):Weak h ⟨tm,H⟩ ⟨tm',H'⟩:=by
 subst e1; subst e2;exact (Weak.mask bs tm H).trans (Weak.drop hm h1 h2)
variable {Q:Exit->St->Prop}
def AWp.loopx {rd:Option Nat} {h:Nat} {c:Code} {st:St} (S:α->St) (I:α->Prop) (μ:α->Nat) (x0:α) (hk:Weak h st (S x0)) (h0:I x0)
  (round: ∀x,I x->AWp P rd h c (A2G (fun s'=> ∃x',Weak h s' (S x')∧I x'∧μ x'<μ x) Q) (S x)):AWp P rd h (.loop c) Q st:=by
 classical
 let In (s:St) (n:Nat):Prop:= ∃x,I x∧s=S x∧μ x=n;let ν (s:St):Nat:=if hx: ∃n,In s n then Classical.choose (A1m _ hx) else 0
 refine AWp.loop (fun s=> ∃x,I x∧s=S x) ν hk ⟨x0,h0,rfl⟩ ?_;rintro s ⟨x,hx,rfl⟩;have hex: ∃n,In (S x) n:=⟨_,x,hx,rfl,rfl⟩;have hν:ν (S x)=Classical.choose (A1m _ hex):=by show (if hx: ∃n,In (S x) n then Classical.choose (A1m _ hx) else 0)=_; rw [dif_pos hex]
 obtain ⟨y,hy,e,hμ⟩:=(Qw1 (A1m _ hex)).1;rw [hν,<-hμ,e];refine (round y hy).mono ?_;intro ex s' hq;cases ex with
 | normal=>
  obtain ⟨x',h1,h2,h3⟩:=hq;refine ⟨S x',h1,⟨x',h2,rfl⟩,?_⟩;have hex': ∃n,In (S x') n:=⟨_,x',h2,rfl,rfl⟩;have hle:ν (S x')≤μ x':=by
   show (if hx: ∃n,In (S x') n then Classical.choose (A1m _ hx) else 0)≤_;rw [dif_pos hex'];exact (Qw1 (A1m _ hex')).2 _ ⟨x',h2,rfl,rfl⟩
  omega
 | exit id=>exact hq
 | goto l=>exact hq
 | ret=>exact hq
 | panic ch=>exact hq
 | outgrown=>exact hq
inductive Sched (ops:Array Oper):List Nat->List Nat->Prop
 | nil (X:List Nat):Sched ops X []
 | cons {X s:List Nat} {i:Nat} {o:Oper} (ho:ops[i]? =some o) (hi:i∉X) (hd: ∀e,e∈o.after->Region.binds .any e=true->e.on∈X) (hs:Sched ops (i::X) s):Sched ops X (i::s)
def A2i (md:Region.Mode) (ops:Array Oper) (rank:List Nat):Bool:=
 rank.length==ops.size&&ops.toList.zipIdx.all fun (o,i)=>o.after.toList.all fun e=> !Region.binds md e||(decide (e.on<ops.size)&&decide (rank.getD e.on 0<rank.getD i 0))
variable {ops:Array Oper}
def A8K {md:Region.Mode} {rank:List Nat} (h:A2i md ops rank=true) {i:Nat} {o:Oper} (ho:ops[i]? =some o) {e:Edge} (he:e∈o.after) (hb:Region.binds md e=true):
  e.on<ops.size∧rank.getD e.on 0<rank.getD i 0:=by
 simp only [A2i,XV,ZX] at h
 have h1:=h.2 (o,i) (by
  rw [Zj];refine ⟨i,?_⟩;rw [Qj3]
  simp [ho])
 simp only at h1;have h2:=h1 e (by simpa using he);simp [hb] at h2;simpa using h2
def B82 {md:Region.Mode} {e:Edge} (h:Region.binds .any e=true):Region.binds md e=true:=by
 unfold Region.binds at h ⊢;split<;>simp_all
def C1V {md:Region.Mode} {rank:List Nat} (hr:A2i md ops rank=true): ∀(fuel t:Nat) (listed:Array Bool) (acc:List Nat),listed.size=ops.size->
  (∀i,i<ops.size->(listed.getD i true=true↔i∈acc))->(∀i,i∈acc->i<ops.size)->
  ((List.range ops.size).filter fun i=> !listed.getD i true).length≤fuel->
  ∃s,Region.linearise.go md ops fuel t listed acc=acc.reverse++s∧Sched ops acc s∧ ∀i,i<ops.size->i∈acc∨i∈s:=by
 intro fuel
 induction fuel with
 | zero=>
  intro t listed acc hsz hl hacc hlen;refine ⟨[],by simp [Region.linearise.go],.nil _,fun i hi=> .inl ?_⟩;have:(List.range ops.size).filter (fun i=> !listed.getD i true)=[]:=ZY.1 (by omega);rw [List.filter_eq_nil_iff] at this;have h1:=this i (by simpa using hi);exact (hl i hi).1 (by simpa using h1)
 | succ fuel ih=>
  intro t listed acc hsz hl hacc hlen;simp only [Region.linearise.go];generalize hrs:(List.range ops.size).filter (fun i=> !listed.getD i true&&((ops[i]?).map (·.after.all fun e=> !Region.binds md e||listed.getD e.on false)).getD false)=rs;cases hpick:rs[t%rs.length]? with
  | none=>
   have hnil:rs=[]:=by
    cases rs with
    | nil=>rfl
    | cons a l=>rw [List.getElem?_eq_none_iff] at hpick; have:=VZ t (show 0<(a::l).length by simp); omega
   refine ⟨[],by simp,.nil _,fun i hi=> ?_⟩;by_cases hin:i∈acc
   ·exact .inl hin
   ·exfalso;have hex: ∃k,∃i,i<ops.size∧i∉acc∧rank.getD i 0=k:=⟨_,i,hi,hin,rfl⟩;obtain ⟨k,⟨j,hj,hjn,hk⟩,hmin⟩:=A1m _ hex;have hmem:j∈rs:=by
     rw [<-hrs,ZV];have ho:ops[j]? =some ops[j]:=QZ hj;refine ⟨by simpa using hj,?_⟩;have h1:listed.getD j true=false:=by
      cases hb:listed.getD j true with
      | false=>rfl
      | true=>exact absurd ((hl j hj).1 hb) hjn
     simp only [h1,Qx8,VQ,ho,Option.map_some,Option.getD_some];rw [Array.all_eq_true_iff_forall_mem];intro e he;by_cases hb:Region.binds md e=true
     ·obtain ⟨q1,q2⟩:=A8K hr ho he hb;have hl2:e.on∈acc:=by
       by_cases hq:e.on∈acc
       ·exact hq
       ·have:=hmin _ ⟨e.on,q1,hq,rfl⟩; omega
      have h2:=(hl e.on q1).2 hl2;have h3:listed.getD e.on false=true:=by
       simp only [Array.getD,hsz,q1,dif_pos] at h2 ⊢; exact h2
      simp [h3]
     ·simp [hb]
    rw [hnil] at hmem; cases hmem
  | some i=>
   have hmem:i∈rs:=Qv hpick;rw [<-hrs,ZV] at hmem;obtain ⟨hi0,hi1⟩:=hmem;have hi:i<ops.size:=by simpa using hi0
   have ho:ops[i]? =some ops[i]:=QZ hi;simp only [ho,Option.map_some,Option.getD_some,XV,Ww] at hi1;have hnot:i∉acc:=fun h=>by have:=(hl i hi).2 h; rw [hi1.1] at this; cases this
   have hget: ∀j,j<ops.size->(listed.setIfInBounds i true).getD j true=(if j=i then true else listed.getD j true):=fun j hj=>by
    have hj2:j<listed.size:=by rw [hsz]; exact hj
    by_cases e:i=j
    ·subst e; simp [Array.getD_eq_getD_getElem?,Qx4 hj2]
    ·rw [if_neg (Ne.symm e)]; simp [Array.getD_eq_getD_getElem?,Qj6 e]
   obtain ⟨s,hs1,hs2,hs3⟩:=ih (t / rs.length) (listed.setIfInBounds i true) (i::acc) (by simpa using hsz) (fun j hj=>by
    rw [hget j hj];by_cases e:j=i
    ·simp [e]
    ·rw [if_neg e,hl j hj]; simp [e]) (fun j hj=>by rcases QV.1 hj with rfl | hj; exact hi; exact hacc j hj) (by
    have hlt:((List.range ops.size).filter fun j=> !(listed.setIfInBounds i true).getD j true).length<((List.range ops.size).filter fun j=> !listed.getD j true).length:=by
     have e1:((List.range ops.size).filter fun j=> !(listed.setIfInBounds i true).getD j true)=((List.range ops.size).filter fun j=> !listed.getD j true).filter (fun j=>decide (j≠i)):=by
      rw [List.filter_filter];apply Qw4;intro j hj;rw [hget j (by simpa using hj)];by_cases e:j=i
      ·simp [e]
      ·rw [if_neg e]; simp [e]
     rw [e1];refine List.length_filter_lt_length_iff_exists.2 ⟨i,?_,by simp⟩;rw [ZV]; exact ⟨hi0,by simp [hi1.1]⟩
    omega)
   refine ⟨i::s,by show Region.linearise.go md ops fuel (t / rs.length) (listed.setIfInBounds i true) (i::acc)=_; rw [hs1]; simp,.cons ho hnot (fun e he hb=> ?_) hs2,fun j hj=> ?_⟩
   ·have hb':=B82 (md:=md) hb;have h2:=Array.all_eq_true_iff_forall_mem.1 hi1.2 e he;simp only [hb',Qq4,Qq7] at h2;obtain ⟨q1,_⟩:=A8K hr ho he hb';refine (hl e.on q1).1 ?_;have:e.on<listed.size:=by rw [hsz]; exact q1
    simp only [Array.getD,this,dif_pos] at h2 ⊢; exact h2
   ·rcases hs3 j hj with h | h
    ·rcases QV.1 h with rfl | h
     ·exact .inr (by simp)
     ·exact .inl h
    ·exact .inr (by simp [h])
def A8j {r1 r2 r3:List Nat} (h1:A2i .any ops r1=true) (h2:A2i .text ops r2=true) (h3:A2i .gc ops r3=true) (mixed:Bool) (t:Nat):
  Sched ops [] (Region.schedule mixed ops t)∧ ∀i,i<ops.size->i∈Region.schedule mixed ops t:=by
 have key: ∀md r,A2i md ops r=true-> ∀t,Sched ops [] (Region.linearise md ops t)∧ ∀i,i<ops.size->i∈Region.linearise md ops t:=by
  intro md r hr t
  obtain ⟨s,e1,e2,e3⟩:=C1V hr ops.size t (Array.replicate ops.size false) [] (by simp) (fun i hi=>by simp [Array.getD,hi]) (by simp) (by
   refine Yw (WW _ _) (by simp))
  have e:Region.linearise md ops t=s:=by simpa [Region.linearise] using e1
  rw [e];exact ⟨e2,fun i hi=>by rcases e3 i hi with h | h; cases h; exact h⟩
 unfold Region.schedule;split
 ·exact key _ _ h1 t
 ·split
  ·exact key _ _ h2 _
  ·exact key _ _ h3 _
inductive Wd where
 | no
 | yes
 | loud
def Wd.ld:Wd->Bool
 | .no=>false
 | .yes=>true
 | .loud=>true
def Wd.lc:Wd->Bool
 | .no=>false
 | .yes=>false
 | .loud=>true
def isReg (w:Wd):Op->Bool
 | .move _ | .assign _ | .pick .. | .unOp .. | .binOp .. | .extract .. | .fieldAddr .. | .indexAddr .. | .build .. | .nilCheck _ | .convert .. =>true
 | .call { callee:= .builtin .len,.. } | .call { callee:= .builtin .max,.. } | .call { callee:= .builtin .min,.. }=>true
 | .slice .. | .buildSlice .. =>true
 | .load .. =>w.ld
 | _=>false
def isLoud (w:Wd):Op->Bool
 | .alloc _ | .box .. | .store .. | .makeSlice .. | .mapUpdate .. | .entryStore .. | .mapEntry .. | .makeMap .. | .range .. | .next .. =>true
 | .call { callee:= .builtin .append,.. }=>true
 | .call { callee:= .builtin .copy,.. }=>true
 | .call { callee:= .value _,.. }=>w.lc
 | _=>false
def C1W:Operand->List Tmp
 | .tmp t=>[t]
 | _=>[]
def C1X (all:Array Oper) (o:Oper):List Tmp:=
 match o.guard with
 | some (j,_)=>((all[j]?).bind (·.dst)).toList
 | none=>[]
def A17 (all:Array Oper) (o:Oper):List Tmp:=o.dst.toList++o.op.operands.toList.flatMap C1W++C1X all o
def clash (w:Wd) (all:Array Oper) (a b:Oper):Bool:=
 a.dst.toList.any (fun t=>(A17 all b).contains t)||b.dst.toList.any (fun t=>(A17 all a).contains t)||(isLoud w a.op&& !isReg w b.op)||(isLoud w b.op&& !isReg w a.op)
def C1Y (o:Oper) (acc:List Nat):Nat:=o.after.toList.foldl (fun s e=>if Region.binds .any e then s|||2^e.on|||acc.getD e.on 0 else s) 0
def A1L:List Oper->List Nat->List Nat
 | [],acc=>acc
 | o::os,acc=>A1L os (acc++[C1Y o acc])
def A8L (w:Wd) (ops:Array Oper):Bool:=
 let b:=A1L ops.toList []
 ops.toList.zipIdx.all fun (y,j)=>ops.toList.zipIdx.all fun (x,i)=> !(decide (i<j))|| !clash w ops x y||(b.getD j 0).testBit i
def Down (ops:Array Oper) (X:List Nat):Prop:= ∀(j:Nat) o,j∈X->ops[j]? =some o-> ∀e,e∈o.after->Region.binds .any e=true->e.on∈X
variable {o:Oper}
def B83 {acc:List Nat} (h:(C1Y o acc).testBit i=true): ∃e,e∈o.after∧Region.binds .any e=true∧(e.on=i∨(acc.getD e.on 0).testBit i=true):=by
 unfold C1Y at h;have key: ∀(l:List Edge) (s:Nat),(l.foldl (fun s e=>if Region.binds .any e then s|||2^e.on|||acc.getD e.on 0 else s) s).testBit i=true->s.testBit i=true∨ ∃e,e∈l∧Region.binds .any e=true∧(e.on=i∨(acc.getD e.on 0).testBit i=true):=by
  intro l
  induction l with
  | nil=>intro s h; exact .inl h
  | cons e l ih=>
   intro s h;rcases ih _ h with h1 | ⟨e',h1,h2⟩
   ·dsimp only at h1;by_cases hb:Region.binds .any e=true
    ·rw [if_pos hb] at h1;simp only [Nat.testBit_or,YV,Nat.testBit_two_pow,decide_eq_true_eq] at h1;rcases h1 with (h1 | h1) | h1
     ·exact .inl h1
     ·exact .inr ⟨e,by simp,hb,.inl h1⟩
     ·exact .inr ⟨e,by simp,hb,.inr h1⟩
    ·rw [if_neg hb] at h1; exact .inl h1
   ·exact .inr ⟨e',by simp [h1],h2⟩
 rcases key _ 0 h with h1 | ⟨e,h1,h2⟩
 ·simp at h1
 ·exact ⟨e,by simpa using h1,h2⟩
def B84 (ops:Array Oper) (acc:List Nat):Prop:=
 ∀(j m:Nat),acc[j]? =some m-> ∀X,Down ops X->(∀o,ops[j]? =some o-> ∀e,e∈o.after->Region.binds .any e=true->e.on∈X)-> ∀i,m.testBit i=true->i∈X
def A8M (ops:Array Oper): ∀(os:List Oper) (acc:List Nat) (pre:List Oper),ops.toList=pre++os->acc.length=pre.length->B84 ops acc->B84 ops (A1L os acc):=by
 intro os
 induction os with
 | nil=>intro acc pre _ _ h; exact h
 | cons o os ih=>
  intro acc pre hops hlen hacc;have ho:ops[pre.length]? =some o:=by
   rw [<-WY,hops,QW (Qk _)]; simp
  refine ih (acc++[C1Y o acc]) (pre++[o]) (by simp [hops]) (by simp [hlen]) ?_;intro j m hj X hX he i hi;by_cases hlt:j<acc.length
  ·rw [Qw hlt] at hj;exact hacc j m hj X hX he i hi
  ·rw [QW (by omega)] at hj;have e:j=acc.length:=by
    have:=(Qx.1 hj).1; simp at this; omega
   subst e;simp at hj; subst hj;obtain ⟨e,h1,h2,h3⟩:=B83 hi;have hin:=he o (by rw [hlen]; exact ho) e h1 h2;rcases h3 with rfl | h3
   ·exact hin
   ·cases hg:acc[e.on]? with
    | none=>simp [List.getD,hg] at h3
    | some m=>simp [List.getD,hg] at h3; exact hacc _ _ hg X hX (fun o' ho' e' h4 h5=>hX _ o' hin ho' e' h4 h5) i h3
def A1q {w:Wd} (h:A8L w ops=true) {i j:Nat} {x y:Oper} (hx:ops[i]? =some x) (hy:ops[j]? =some y) (hij:i<j) (hc:clash w ops x y=true) {X:List Nat} (hX:Down ops X)
  (he: ∀e,e∈y.after->Region.binds .any e=true->e.on∈X):i∈X:=by
 unfold A8L at h;simp only [ZX] at h;have m: ∀(k:Nat) z,ops[k]? =some z->(z,k)∈ops.toList.zipIdx:=fun k z hz=>by
  rw [Zj];refine ⟨k,?_⟩;rw [Qj3];simp [hz]
 have h1:=h (y,j) (m j y hy) (x,i) (m i x hx);simp only [hij,hc,decide_true,Qq4,Qq7] at h1;have hb:B84 ops (A1L ops.toList []):=A8M ops ops.toList [] [] (by simp) rfl (by intro j m hj; simp at hj);cases hg:(A1L ops.toList [])[j]? with
 | none=>simp [List.getD,hg] at h1
 | some m=>
  simp [List.getD,hg] at h1;exact hb j m hg X hX (fun o ho e h2 h3=>by rw [hy] at ho; cases ho; exact he e h2 h3) i h1
def replay (dst:Nat->Option Tmp) (rv:Nat->AVal) (X:Nat->Bool):Nat->List AVal->List AVal
 | 0,tm=>tm
 | m+1,tm=>if X m then A1a (replay dst rv X m tm) (dst m) (rv m) else replay dst rv X m tm
def A1r (tm:List AVal) (d:Option Tmp) (v:AVal):(A1a tm d v).length=tm.length:=by cases d<;>simp [A1a]
def A3H {d:Option Tmp} {v:AVal} {t:Tmp} (h:d≠some t):(A1a tm d v)[t]? =tm[t]? :=by
 cases d with
 | none=>rfl
 | some d=>simp only [A1a]; rw [Qy (fun e=>h (by rw [e]))]
def A5S {v:AVal} {t:Tmp} (h:t<tm.length):(A1a tm (some t) v)[t]? =some v:=by simp [A1a,QX h]
section
variable {dst:Nat->Option Tmp} {rv:Nat->AVal} {X Y:Nat->Bool} {tm:List AVal}
def A0R: ∀m,(replay dst rv X m tm).length=tm.length:=by
 intro m
 induction m with
 | zero=>rfl
 | succ m ih=>simp only [replay]; split<;>simp [A1r,ih]
def A1Y {t:Tmp}: ∀m,(∀j,j<m->dst j=some t->X j=Y j)->(replay dst rv X m tm)[t]? =(replay dst rv Y m tm)[t]? :=by
 intro m
 induction m with
 | zero=>intro _; rfl
 | succ m ih=>
  intro h;have ih':=ih (fun j hj=>h j (by omega));simp only [replay];by_cases hd:dst m=some t
  ·have e:=h m (by omega) hd;rw [e];cases Y m
   ·simpa using ih'
   ·simp only [if_true,hd];by_cases hl:t<tm.length
    ·rw [A5S (by rw [A0R]; exact hl),A5S (by rw [A0R]; exact hl)]
    ·rw [Xq (by rw [A1r,A0R]; exact Qx0.1 hl),Xq (by rw [A1r,A0R]; exact Qx0.1 hl)]
  ·have e1: ∀(b:Bool) l,(if b then A1a l (dst m) (rv m) else l)[t]? =l[t]? :=by intro b l; cases b; rfl; exact A3H hd
   rw [e1,e1,ih']
def A8N {t:Tmp} (hX:X i=true) (hd:dst i=some t) (hl:t<tm.length): ∀m,i<m->(∀j,i<j->j<m->dst j=some t->X j=false)->(replay dst rv X m tm)[t]? =some (rv i):=by
 intro m
 induction m with
 | zero=>intro h; omega
 | succ m ih=>
  intro him h;simp only [replay];by_cases e:i=m
  ·subst e; rw [hX,if_pos rfl,hd]; exact A5S (by rw [A0R]; exact hl)
  ·have ih':=ih (by omega) (fun j h1 h2=>h j h1 (by omega));by_cases hdm:dst m=some t
   ·have:=h m (by omega) (by omega) hdm;rw [this]; simpa using ih'
   ·cases X m
    ·simpa using ih'
    ·simp only [if_true]; rw [A3H hdm]; exact ih'
def B25 (i:Nat): ∀m,i≤m->replay dst rv (fun j=>decide (j<i)) m tm=replay dst rv (fun _=>true) i tm:=by
 intro m
 induction m with
 | zero => intro h; have:i=0:=by omega
           subst this; rfl
 | succ m ih=>
  intro h;by_cases e:i=m+1
  ·subst e;have: ∀k,k≤m+1->replay dst rv (fun j=>decide (j<m+1)) k tm=replay dst rv (fun _=>true) k tm:=by
    intro k
    induction k with
    | zero=>intro _; rfl
    | succ k ihk=>intro hk; simp only [replay,ihk (by omega),show k<m+1 by omega,decide_true]
   exact this _ (Qk _)
  ·have h1: ¬(m<i):=by omega
   have h2:i≤m:=by omega
   have:=ih h2;show (if decide (m<i) then _ else _)=_;rw [if_neg (by simp; omega)];exact this
end
variable {op:Op} {x:Operand}
section
structure Trace (wd:Wd) (P:Program) (rd:Option Nat) (ops:Array Oper) (tm0:List AVal) (H0:List Blk) where
 ex:Nat->Bool
 rv:Nat->AVal
 Hs:Nat->List Blk
 start:Hs 0=H0
 ok : ∀(i:Nat) o,ops[i]? =some o->let tm:=replay (fun j=>(ops[j]?).bind (·.dst)) rv (fun _=>true) i tm0
  (gwant ops tm o=some false∧rv i= .tup []∧Hs (i+1)=Hs i)∨
  (gwant ops tm o=some true∧
   ((isReg wd o.op=true∧isLoud wd o.op=false∧(∀H,AStep P rd o (aeval tm) H (rv i) H)∧Hs (i+1)=Hs i)∨
    (isReg wd o.op=false∧AStep P rd o (aeval tm) (Hs i) (rv i) (Hs (i+1))∧(isLoud wd o.op=false->Hs (i+1)=Hs i))))
def A27 {wd:Wd} (h:isLoud wd op=true):isReg wd op=false:=by
 unfold isLoud at h;split at h<;>first | rfl | cases h
variable {wd:Wd} {P:Program} {rd:Option Nat} {ops:Array Oper} {tm0:List AVal} {H0:List Blk}
abbrev A0P (ops:Array Oper):Nat->Option Tmp:=fun j=>(ops[j]?).bind (·.dst)
def A1h (wd:Wd) (ops:Array Oper) (j:Nat):Bool:=((ops[j]?).map fun o=>isLoud wd o.op).getD false
def Trace.quiet (T:Trace wd P rd ops tm0 H0) {j:Nat} (hj:j<ops.size) (h:A1h wd ops j=false):T.Hs (j+1)=T.Hs j:=by
 have ho:ops[j]? =some ops[j]:=QZ hj;have hl:isLoud wd ops[j].op=false:=by simpa [A1h,ho] using h
 rcases T.ok j _ ho with ⟨_,_,h1⟩ | ⟨_,⟨_,_,_,h1⟩ | ⟨_,_,h1⟩⟩
 ·exact h1
 ·exact h1
 ·exact h1 hl
def Trace.same (T:Trace wd P rd ops tm0 H0): ∀(d k:Nat),k+d≤ops.size->(∀j,k≤j->j<k+d->A1h wd ops j=false)->T.Hs (k+d)=T.Hs k:=by
 intro d
 induction d with
 | zero=>intro k _ _; rfl
 | succ d ih=>
  intro k hk h;have:=T.quiet (j:=k+d) (by omega) (h _ (by omega) (by omega));rw [show k+(d+1)=k+d+1 by omega,this];exact ih k (by omega) (fun j h1 h2=>h j h1 (by omega))
def Trace.agree (T:Trace wd P rd ops tm0 H0) {k i:Nat} (hk:k≤ops.size) (hi:i≤ops.size) (h: ∀j,j<ops.size->A1h wd ops j=true->(j<k↔j<i)):T.Hs k=T.Hs i:=by
 have q: ∀a b,a≤b->b≤ops.size->(∀j,j<ops.size->A1h wd ops j=true->(j<a↔j<b))->T.Hs b=T.Hs a:=by
  intro a b hab hb h
  have:=T.same (b-a) a (by omega) (fun j h1 h2=>by
   cases hl:A1h wd ops j with
   | false=>rfl
   | true=>have:=(h j (by omega) hl).2 (by omega); omega)
  rwa [show a+(b-a)=b by omega] at this
 by_cases hki:k≤i
 ·exact (q k i hki hi h).symm
 ·exact q i k (by omega) hk (fun j h1 h2=>(h j h1 h2).symm)
def mem (X:List Nat) (j:Nat):Bool:=decide (j∈X)
def A5T {tm tm':List AVal} (h: ∀t,t∈C1W x->tm[t]? =tm'[t]?):aeval tm x=aeval tm' x:=by
 cases x with
 | tmp t=>have:=h t (by simp [C1W]); simp only [aeval,List.getD,this]
 | const v=>rfl
 | global g=>rfl
 | func f=>rfl
def A5U {tm tm':List AVal} (h: ∀t,t∈C1X ops o->tm[t]? =tm'[t]?):gwant ops tm o=gwant ops tm' o:=by
 unfold gwant;cases hg:o.guard with
 | none=>rfl
 | some q=>
  obtain ⟨j,b⟩:=q;simp only;have:B3T ops tm j=B3T ops tm' j:=by
   unfold B3T;cases hd:(ops[j]?).bind (·.dst) with
   | none=>rfl
   | some d=>
    have:=h d (by unfold C1X; rw [hg]; simp only; rw [hd]; simp);simp only [this]
  rw [this]
def Trace.sound (T:Trace wd P rd ops tm0 H0) (hok:A8L wd ops=true) (Q:Exit->Act->World->Prop) (ds:List Deferred) (ι0:List Nat) (σ0:Sig) (w0:World)
  (hq: ∀ι σ a w,TmpsRel ι σ w (T.Hs ops.size) (replay (A0P ops) T.rv (fun _=>true) ops.size tm0) a.tmps->HRel ι σ w (T.Hs ops.size)->Mono ι0 σ0 w0 H0 ι σ w (T.Hs ops.size)->Ext σ0 w0 σ w->a.defers=ds->Q .normal a w):
  ∀ (s X:List Nat),Sched ops X s->Down ops X->(∀i,i<ops.size->i∈X∨i∈s)->(∀i,i∈X->i<ops.size)->
   ∀ι σ a w k,k≤ops.size->(∀j,j<ops.size->A1h wd ops j=true->(j∈X↔j<k))->TmpsRel ι σ w (T.Hs k) (replay (A0P ops) T.rv (mem X) ops.size tm0) a.tmps->HRel ι σ w (T.Hs k)->RdOK rd σ w->
    Mono ι0 σ0 w0 H0 ι σ w (T.Hs k)->Ext σ0 w0 σ w->a.defers=ds->wpOpsIn (Fr rd) 9 P ops Q s a w:=by
 intro s
 induction s with
 | nil=>
  intro X _ _ hcov _ ι σ a w k hk hkX h1 h2 h3 h4 h5 h6;have hall: ∀i,i<ops.size->i∈X:=fun i hi=>by rcases hcov i hi with h | h; exact h; cases h
  have eH:T.Hs k=T.Hs ops.size:=T.agree hk (Qk _) (fun j hj hl=>⟨fun _=>hj,fun _=>(hkX j hj hl).1 (hall j hj)⟩);have eR:replay (A0P ops) T.rv (mem X) ops.size tm0=replay (A0P ops) T.rv (fun _=>true) ops.size tm0:=by
   apply Zq;intro t;exact A1Y _ (fun j hj _=>by simp [mem,hall j hj])
  rw [eH] at h1 h2 h4;rw [eR] at h1;exact hq ι σ a w h1 h2 h4 h5 h6
 | cons i s ih=>
  intro X hs hD hcov hlt ι σ a w k hk hkX h1 h2 h3 h4 h5 h6;cases hs with
  | cons ho hi hd hs=>
  rename_i o;have hin:i<ops.size:=(Xz.1 ho).1;have names: ∀t,t∈A17 ops o-> ∀j,j<ops.size->A0P ops j=some t->j≠i->(j∈X↔j<i):=by
   intro t ht j hj hdj hne;have hoj:ops[j]? =some ops[j]:=QZ hj;have hdj':ops[j].dst=some t:=by simpa [A0P,hoj] using hdj
   by_cases hji:j<i
   ·refine ⟨fun _=>hji,fun _=>A1q hok hoj ho hji ?_ hD hd⟩;simp only [clash,YV];left; left; left;rw [hdj']; simp only [Option.toList_some,List.any_cons,List.any_nil,Qw8];exact Qz7.2 ht
   ·have hij:i<j:=by omega
    refine ⟨fun hX=> ?_,fun h=>absurd h hji⟩
    exact absurd (A1q hok ho hoj hij (by
     simp only [clash,YV];left; left; right;rw [hdj']; simp only [Option.toList_some,List.any_cons,List.any_nil,Qw8]
     exact Qz7.2 ht) hD (fun e he hb=>hD j _ hX hoj e he hb)) hi
  have tmEq: ∀t,t∈A17 ops o->(replay (A0P ops) T.rv (mem X) ops.size tm0)[t]? =(replay (A0P ops) T.rv (fun _=>true) i tm0)[t]? :=by
   intro t ht;rw [<-B25 i ops.size (by omega)];refine A1Y _ (fun j hj hdj=> ?_);by_cases e:j=i
   ·subst e; simp [mem,hi]
   ·have:=names t ht j hj hdj e;simp only [mem,this]
  have evEq: ∀x,x∈o.op.operands->aeval (replay (A0P ops) T.rv (mem X) ops.size tm0) x=aeval (replay (A0P ops) T.rv (fun _=>true) i tm0) x:=fun x hx=>
   A5T fun t ht=>tmEq t (by
    simp only [A17,XZ];left; right
    exact Jy.2 ⟨x,by simpa using hx,ht⟩)
  have gEq:gwant ops (replay (A0P ops) T.rv (mem X) ops.size tm0) o=gwant ops (replay (A0P ops) T.rv (fun _=>true) i tm0) o:=
   A5U fun t ht=>tmEq t (by simp only [A17,XZ]; right; exact ht)
  have after:A1a (replay (A0P ops) T.rv (mem X) ops.size tm0) o.dst (T.rv i)=replay (A0P ops) T.rv (mem (i::X)) ops.size tm0:=by
   apply Zq;intro t;have hdi:A0P ops i=o.dst:=by simp [A0P,ho]
   by_cases hdt:o.dst=some t
   ·have htn:t∈A17 ops o:=by simp only [A17,XZ]; left; left; rw [hdt]; simp
    by_cases hl:t<tm0.length
    ·rw [hdt,A5S (by rw [A0R]; exact hl)];symm;refine A8N (by simp [mem]) (by rw [hdi]; exact hdt) hl _ hin (fun j hij hj hdj=> ?_);have:=names t htn j hj hdj (by omega);simp only [mem,QV,decide_eq_false_iff_not,not_or];exact ⟨by omega,fun h=>by have:=this.1 h; omega⟩
    ·rw [Xq (by rw [A1r,A0R]; exact Qx0.1 hl),Xq (by rw [A0R]; exact Qx0.1 hl)]
   ·rw [A3H hdt];refine A1Y _ (fun j hj hdj=> ?_);have hne:j≠i:=fun e=>hdt (by rw [<-hdi,<-e]; exact hdj);simp [mem,hne]
  have hD':Down ops (i::X):=by
   intro j o' hj hoj e he hb;rcases QV.1 hj with rfl | hj
   ·rw [ho] at hoj; cases hoj; exact YY _ (hd e he hb)
   ·exact YY _ (hD j o' hj hoj e he hb)
  have hcov': ∀j,j<ops.size->j∈i::X∨j∈s:=fun j hj=>by
   rcases hcov j hj with h | h
   ·exact .inl (YY _ h)
   ·rcases QV.1 h with rfl | h
    ·exact .inl (by simp)
    ·exact .inr h
  have hlt': ∀j,j∈i::X->j<ops.size:=fun j hj=>by rcases QV.1 hj with rfl | hj; exact hin; exact hlt j hj
  have stay:isLoud wd o.op=false∨T.Hs (i+1)=T.Hs i-> ∃k',k'≤ops.size∧(∀j,j<ops.size->A1h wd ops j=true->(j∈i::X↔j<k'))∧(isLoud wd o.op=false->T.Hs k'=T.Hs k):=by
   intro _;cases hl:isLoud wd o.op with
   | false=>
    refine ⟨k,hk,fun j hj hlj=> ?_,fun _=>rfl⟩;have hne:j≠i:=by rintro rfl; simp [A1h,ho,hl] at hlj
    simp only [QV,hne,false_or];exact hkX j hj hlj
   | true=>
    refine ⟨i+1,by omega,fun j hj hlj=> ?_,fun h=>by cases h⟩;have hoj:ops[j]? =some ops[j]:=QZ hj;have hlj':isLoud wd ops[j].op=true:=by simpa [A1h,hoj] using hlj
    have hrj:isReg wd ops[j].op=false:=A27 hlj';by_cases e:j=i
    ·subst e; simp
    ·simp only [QV,e,false_or];by_cases hji:j<i
     ·refine ⟨fun _=>by omega,fun _=>A1q hok hoj ho hji ?_ hD hd⟩;simp only [clash,YV,XV,Ww];right; exact ⟨hl,hrj⟩
     ·have hij:i<j:=by omega
      refine ⟨fun hX=> ?_,fun h=>by omega⟩
      exact absurd (A1q hok ho hoj hij (by
       simp only [clash,YV,XV,Ww]
       left; right; exact ⟨hl,hrj⟩) hD (fun e he hb=>hD j _ hX hoj e he hb)) hi
  have heapEq:isReg wd o.op=false->T.Hs k=T.Hs i:=by
   intro hr;refine T.agree hk (by omega) (fun j hj hlj=> ?_);have hoj:ops[j]? =some ops[j]:=QZ hj;have hlj':isLoud wd ops[j].op=true:=by simpa [A1h,hoj] using hlj
   by_cases e:j=i
   ·subst e; rw [<-hkX j hj hlj]; exact ⟨fun h=>absurd h hi,fun h=>by omega⟩
   ·rw [<-hkX j hj hlj];by_cases hji:j<i
    ·refine ⟨fun _=>hji,fun _=>A1q hok hoj ho hji ?_ hD hd⟩;simp only [clash,YV,XV,Ww];left; right; exact ⟨hlj',hr⟩
    ·have hij:i<j:=by omega
     refine ⟨fun hX=> ?_,fun h=>by omega⟩
     exact absurd (A1q hok ho hoj hij (by
      simp only [clash,YV,XV,Ww]
      right; exact ⟨hlj',hr⟩) hD (fun e he hb=>hD j _ hX hoj e he hb)) hi
  unfold wpOpsIn;simp only [ho];rcases T.ok i o ho with ⟨hg,hrv,hH⟩ | ⟨hg,hcase⟩
  ·-- passed over
   rw [if_neg (by rw [A07 h1 (gEq.trans hg)]; simp)];refine ⟨fun _ _=>trivial,?_⟩;obtain ⟨k',hk',hkX',hHk⟩:=stay (.inr hH);have eH:T.Hs k'=T.Hs k:=by
    cases hl:isLoud wd o.op with
    | false=>exact hHk hl
    | true=>
     have hr:isReg wd o.op=false:=A27 hl;rw [heapEq hr]
     have:T.Hs k'=T.Hs (i+1):=T.agree hk' (by omega) (fun j hj hlj=>by
      rw [<-hkX' j hj hlj];have h7:=hkX j hj hlj;by_cases e:j=i
      ·subst e; simp
      ·simp only [QV,e,false_or];rw [h7];have h8:T.Hs k=T.Hs i:=heapEq hr;have hoj:ops[j]? =some ops[j]:=QZ hj;have hlj':isLoud wd ops[j].op=true:=by simpa [A1h,hoj] using hlj
       rw [<-h7];by_cases hji:j<i
       ·refine ⟨fun _=>by omega,fun _=>A1q hok hoj ho hji ?_ hD hd⟩;simp only [clash,YV,XV,Ww];left; right; exact ⟨hlj',hr⟩
       ·have hij:i<j:=by omega
        refine ⟨fun hX=> ?_,fun h=>by omega⟩
        exact absurd (A1q hok ho hoj hij (by
         simp only [clash,YV,XV,Ww]
         right; exact ⟨hlj',hr⟩) hD (fun e he hb=>hD j _ hX hoj e he hb)) hi)
     rw [this,hH]
   rw [<-eH] at h1 h2 h4;have h1':=A0K h1 (d:=o.dst) (x:= .tup []) (v:=undef) A25;rw [<-hrv,after] at h1';exact ih (i::X) hs hD' hcov' hlt' ι σ _ w k' hk' hkX' h1' h2 h3 h4 h5 (by rw [Act.put_defers]; exact h6)
  ·rw [if_pos (A07 h1 (gEq.trans hg))];rcases hcase with ⟨hreg,hnl,hstep,hH⟩ | ⟨hreg,hstep,hH⟩
   ·refine hstep (T.Hs k) ι σ a w (fun x hx=>by rw [<-evEq x hx]; exact A0J h1 x) h2 h3 _ _ ?_;intro v w' ι' σ' r1 r2 r3 r4;obtain ⟨k',hk',hkX',hHk⟩:=stay (.inl hnl);have h1':=A0K (h1.mono r3) (d:=o.dst) r1;rw [after] at h1';have eH:=hHk hnl;rw [<-eH] at h1' r2 r3;exact ih (i::X) hs hD' hcov' hlt' ι' σ' _ w' k' hk' hkX' h1' r2 (h3.ext r4) ((eH▸h4).trans (by rw [eH] at r3 ⊢; exact r3)) (h5.trans r4) (by rw [Act.put_defers]; exact h6)
   ·have eH:=heapEq hreg;rw [eH] at h1 h2 h4;refine hstep ι σ a w (fun x hx=>by rw [<-evEq x hx]; exact A0J h1 x) h2 h3 _ _ ?_;intro v w' ι' σ' r1 r2 r3 r4;have h1':=A0K (h1.mono r3) (d:=o.dst) r1;rw [after] at h1';cases hl:isLoud wd o.op with
    | false=>
     have e2:T.Hs (i+1)=T.Hs k:=by rw [hH hl,eH]
     rw [e2] at h1' r2 r3;rw [<-eH] at h4 r3;obtain ⟨k',hk',hkX',hHk⟩:=stay (.inl hl);have e3:=hHk hl;rw [<-e3] at h1' r2 r3 h4;exact ih (i::X) hs hD' hcov' hlt' ι' σ' _ w' k' hk' hkX' h1' r2 (h3.ext r4) (h4.trans r3) (h5.trans r4) (by rw [Act.put_defers]; exact h6)
    | true=>
     have hkX': ∀j,j<ops.size->A1h wd ops j=true->(j∈i::X↔j<i+1):=by
      intro j hj hlj;have hoj:ops[j]? =some ops[j]:=QZ hj;have hlj':isLoud wd ops[j].op=true:=by simpa [A1h,hoj] using hlj
      by_cases e:j=i
      ·subst e; simp
      ·simp only [QV,e,false_or];by_cases hji:j<i
       ·refine ⟨fun _=>by omega,fun _=>A1q hok hoj ho hji ?_ hD hd⟩;simp only [clash,YV,XV,Ww];left; right; exact ⟨hlj',hreg⟩
       ·have hij:i<j:=by omega
        refine ⟨fun hX=> ?_,fun h=>by omega⟩
        exact absurd (A1q hok ho hoj hij (by
         simp only [clash,YV,XV,Ww]
         right; exact ⟨hlj',hreg⟩) hD (fun e he hb=>hD j _ hX hoj e he hb)) hi
     exact ih (i::X) hs hD' hcov' hlt' ι' σ' _ w' (i+1) (by omega) hkX' h1' r2 (h3.ext r4) (h4.trans r3) (h5.trans r4) (by rw [Act.put_defers]; exact h6)
end
section
variable {P:Program} {rd:Option Nat} {wd:Wd}
def C4z {o:Oper} {ρ:Operand->AVal} {H:List Blk} {K:AVal->List Blk->Prop} (hr:isReg .no o.op=true) (h:aop P ρ H o.op K): ∃rv,(∀H',AStep P rd o ρ H' rv H')∧K rv H:=by
 cases ho:o.op with
 | move x=>rw [ho] at h; exact ⟨_,fun _=>A4C x (.inl ho),h⟩
 | assign x=>rw [ho] at h; exact ⟨_,fun _=>A4C x (.inr ho),h⟩
 | pick c x y=>
  rw [ho] at h; simp only [aop] at h;split at h
  ·rename_i b hb;refine ⟨_,fun _=>B2s c x y ho b hb,?_⟩;cases b
   ·exact h.2 rfl
   ·exact h.1 rfl
  ·exact h.elim
 | unOp op t x=>
  rw [ho] at h;cases op<;>simp only [aop] at h
  case not=>
   split at h
   ·rename_i b hb; exact ⟨_,fun _=>B5q t x ho b hb,h⟩
   ·exact h.elim
  case neg=>
   split at h
   ·rename_i k n hb; exact ⟨_,fun _=>B5u t x ho k n hb h.1,h.2⟩
   ·exact h.elim
 | binOp op t x y t'=>
  rw [ho] at h; simp only [aop,C7v] at h;split at h
  ·rename_i k a k' b hx hy;by_cases hs:B1m op=true
   ·rw [if_pos hs] at h;obtain ⟨c,v,hK,hrun,hv⟩:=A7E h.1 h.2;refine ⟨.c c,fun H'=>AStep.value (by simp [ho]) fun ι σ a' w hx' hH=>⟨v,?_,hv ι σ w H'⟩,hK⟩;have e1:a'.eval x= .int k a:=by have:=hx' x (by simp [Op.operands,ho]); rw [hx] at this; exact this
    have e2:a'.eval y= .int k' b:=by have:=hx' y (by simp [Op.operands,ho]); rw [hy] at this; exact this
    have hg:(eqGuard op t x y (.int k a) (.int k' b)).run P w= .ok () w:=by
     unfold eqGuard; cases op<;>simp
    simp only [execOp,ho,e1,e2,Sem.run_bind,hg,hrun,Result.andThen_ok,Sem.run_pure]
   rw [if_neg hs] at h;obtain ⟨rfl,h⟩:=h;obtain ⟨c,v,hK,hrun,hv⟩:=B0e h;refine ⟨.c c,fun H'=>AStep.value (by simp [ho]) fun ι σ a' w hx' hH=>⟨v,?_,hv ι σ w H'⟩,hK⟩;have e1:a'.eval x= .int k' a:=by have:=hx' x (by simp [Op.operands,ho]); rw [hx] at this; exact this
   have e2:a'.eval y= .int k' b:=by have:=hx' y (by simp [Op.operands,ho]); rw [hy] at this; exact this
   have hg:(eqGuard op t x y (.int k' a) (.int k' b)).run P w= .ok () w:=by
    unfold eqGuard; cases op<;>simp
   simp only [execOp,ho,e1,e2,Sem.run_bind,hg,hrun,Result.andThen_ok,Sem.run_pure]
  ·rename_i a b hx hy;split at h
   ·have:=fun H'=>A35 (P:=P) (rd:=rd) (H:=H') t t' false x y ho h.1 a b hx hy;exact ⟨_,this,by simpa using h.2⟩
   ·have:=fun H'=>A35 (P:=P) (rd:=rd) (H:=H') t t' true x y ho h.1 a b hx hy;exact ⟨_,this,by simpa using h.2⟩
   ·exact h.elim
  ·rename_i xs ys hx hy;obtain ⟨as,bs,ha,hb,he,hl,h⟩:=h;split at h
   ·have:=fun H'=>A4m (P:=P) (rd:=rd) (H:=H') false t t' x y ho xs ys hx hy as bs ha hb he hl;exact ⟨_,this,by simpa using h⟩
   ·have:=fun H'=>A4m (P:=P) (rd:=rd) (H:=H') true t t' x y ho xs ys hx hy as bs ha hb he hl;exact ⟨_,this,by simpa using h⟩
   ·exact h.elim
  ·rename_i rows tok hx hy;obtain ⟨hr,h⟩:=h;split at h
   ·rename_i e he;split at h
    ·exact ⟨_,fun H'=>A22 (P:=P) (rd:=rd) (H:=H') false t t' x y ho e he rows tok hx hr hy,h⟩
    ·exact ⟨_,fun H'=>A22 (P:=P) (rd:=rd) (H:=H') true t t' x y ho e he rows tok hx hr hy,h⟩
    ·exact h.elim
   ·exact h.elim
  ·exact h.elim
 | extract x i=>
  rw [ho] at h; simp only [aop] at h;split at h
  ·rename_i xs hx;split at h
   ·rename_i c hc; exact ⟨_,fun _=>A3y x i ho xs _ hx hc (by simp),h⟩
   ·rename_i cs hc; exact ⟨_,fun _=>A3y x i ho xs _ hx hc (by simp),h⟩
   ·exact h.elim
  ·exact h.elim
 | fieldAddr s x f=>
  rw [ho] at h; simp only [aop,A5t] at h;split at h
  ·rename_i off ft hf;split at h
   ·rename_i n hn;split at h
    ·rename_i id i hx; exact ⟨_,fun _=>A3z s x f ho off n ft hf hn id i hx,h⟩
    ·rename_i cells hx; exact ⟨_,fun _=>A2Y s x f ho off n ft hf hn cells hx,h⟩
    ·exact h.elim
   ·exact h.elim
  ·exact h.elim
 | indexAddr t x y=>
  rw [ho] at h; simp only [aop,A5u] at h;split at h
  ·rename_i k i hy;split at h
   ·rename_i n e he;split at h
    ·rename_i s hs;split at h
     ·rename_i id j hx; exact ⟨_,fun _=>A30 t x y ho n s e he hs id j hx k i hy h.1 h.2.1,h.2.2⟩
     ·rename_i cells hx; exact ⟨_,fun _=>A2Z t x y ho n s e he hs cells hx k i hy h.1 h.2.1,h.2.2⟩
     ·exact h.elim
    ·exact h.elim
   ·rename_i e he;split at h
    ·rename_i s hs;split at h
     ·rename_i rows tok hx;obtain ⟨h0,r,hr,hl,h⟩:=h;exact ⟨_,fun _=>A2K t x y ho s e he hs rows tok hx k i hy h0 r hr hl,h⟩
     ·rename_i id k' off len cap hx;obtain ⟨rfl,h0,h1,h⟩:=h;exact ⟨_,fun _=>A31 t x y ho k' e he hs id off len cap hx k i hy h0 h1,h⟩
     ·rename_i rs tok hx;obtain ⟨h0,r,hr,hl,h⟩:=h;exact ⟨_,fun _=>A3h t x y ho s e he hs rs tok hx k i hy h0 r hr hl,h⟩
     ·rename_i id len cap hx;obtain ⟨rfl,h0,h1,h⟩:=h;exact ⟨_,fun _=>A32 t x y ho e he hs id len cap hx k i hy h0 h1,h⟩
     ·exact h.elim
    ·exact h.elim
   ·exact h.elim
  ·exact h.elim
 | build t ps=>
  rw [ho] at h; simp only [aop,B51] at h;split at h
  ·rename_i z p hb;split at h
   ·rename_i zs parts hz hp;obtain ⟨cs,hf,h⟩:=h;exact ⟨_,fun _=>B0f t ps ho z p hb zs hz parts hp cs hf,h⟩
   ·exact h.elim
  ·exact h.elim
 | nilCheck x=>
  rw [ho] at h; simp only [aop] at h;split at h
  ·rename_i f caps hx; exact ⟨_,fun _=>A4z x ho f caps hx,h⟩
  ·rename_i id j hx; exact ⟨_,fun _=>A3O x ho id j hx,h⟩
  ·rename_i cells hx; exact ⟨_,fun _=>A34 x ho cells hx,h⟩
  ·rename_i l hx; exact ⟨_,fun _=>A3P x ho l hx,h⟩
  ·exact h.elim
 | convert src dst x=>
  rw [ho] at h; simp only [aop] at h;split at h
  ·rename_i d k hs hd;split at h
   ·rename_i k' n hx; exact ⟨_,fun _=>A40 src dst x ho d hs k hd k' n hx h.1,h.2⟩
   ·exact h.elim
  ·exact h.elim
 | call c=>
  rw [ho] at h hr; simp only [aop] at h;obtain ⟨callee,args,tys⟩:=c;cases callee with
  | value fo=>cases hr
  | invoke r m=>cases hr
  | builtin b=>
   cases b<;>try (cases hr; done)
   case len=>
    simp only [A7Z] at h;split at h
    ·rename_i x ty hxs htys;have e1:args= #[x]:=by apply JW; simpa using hxs
     have e2:tys[0]? =some ty:=by rw [<-WY,htys]; rfl
     subst e1;split at h
     ·rename_i e he;split at h
      ·rename_i y hy;obtain ⟨n,hn,h⟩:=h;exact ⟨_,fun _=>B5v x ty tys ho e2 e he y hy n hn,h⟩
      ·exact h.elim
     ·rename_i n e he; exact ⟨_,fun _=>A5H x ty tys ho e2 e n he,h⟩
     ·exact h.elim
    ·exact h.elim
   case max=>
    simp only [A7Z] at h;split at h
    ·rename_i x y hxs;have e1:args= #[x,y]:=by apply JW; simpa using hxs
     subst e1;split at h
     ·rename_i k n k' m hx hy;obtain ⟨rfl,h⟩:=h;exact ⟨_,fun _=>B5w x y tys ho k' n m hx hy,h⟩
     ·exact h.elim
    ·rename_i x y z u hxs;have e1:args= #[x,y,z,u]:=by apply JW; simpa using hxs
     subst e1;split at h
     ·rename_i k n k1 m k2 p k3 q hx hy hz hu;obtain ⟨h1,h2,h3,h⟩:=h;subst h1 h2 h3;exact ⟨_,fun _=>B2w x y z u tys ho _ n m p q hx hy hz hu,h⟩
     ·exact h.elim
    ·exact h.elim
   case min=>
    simp only [A7Z] at h;split at h
    ·rename_i x y hxs;have e1:args= #[x,y]:=by apply JW; simpa using hxs
     subst e1;split at h
     ·rename_i k n k' m hx hy;obtain ⟨rfl,h⟩:=h;exact ⟨_,fun _=>B5x x y tys ho k' n m hx hy,h⟩
     ·exact h.elim
    ·exact h.elim
 | slice t x lo hi mx=>rw [ho] at h; obtain ⟨rv,h1,h2⟩:=A7H (rd:=rd) (K:=fun v=>K v H) ho h; exact ⟨rv,h1,h2⟩
 | buildSlice t len ps=>
  rw [ho] at h; simp only [aop,A4l] at h;split at h
  ·rename_i e he;split at h
   ·rename_i size z hs hz;split at h
    ·rename_i parts hp;split at h
     ·rename_i cs h1;split at h
      ·rename_i ts h2;exact ⟨_,fun _=>A2h t len ps ho e he size hs z hz parts hp cs h1 ts h2 h.1,h.2⟩
      ·split at h
       ·rename_i x hps;split at h
        ·rename_i id k off l c hx;obtain ⟨rfl,h⟩:=h;have e1:ps= #[(0,x)]:=by apply JW; simpa using hps
         subst e1;exact ⟨_,fun _=>A3g t x ho e he hs z hz id k off l c hx,h⟩
        ·exact h.elim
       ·exact h.elim
     ·exact h.elim
    ·exact h.elim
   ·exact h.elim
  ·exact h.elim
 | _=>rw [ho] at hr; cases hr
def B52 (P:Program) (t:Nat) (x:AVal) (K:AVal->Prop):Prop:=
 match A1O P t with
 | some false=>
  match x with
  | .c (.rptr (c::_))=>K (.c (A0v c))
  | .c (.rptrC (c::_))=>K (.c (A0c c))
  | _=>False
 | some true=>
  match A0u P t with
  | some n=>
   match x with
   | .c (.rptr cells)=> ∃l,B8y n cells=some l∧K (.agg (l.map A0v))
   | _=>False
  | none=>False
 | none=>False
def B26 {o:Oper} {ρ:Operand->AVal} {t:TypeId} {x:Operand} {K:AVal->Prop} (ho:o.op= .load t x) (h:B52 P t (ρ x) K): ∃rv,(∀H',AStep P rd o ρ H' rv H')∧K rv:=by
 unfold B52 at h;split at h
 ·rename_i hag;split at h
  ·rename_i c cells hx; exact ⟨_,fun _=>A5E t x ho hag c cells hx,h⟩
  ·rename_i c cells hx; exact ⟨_,fun _=>A4J t x ho hag c cells hx,h⟩
  ·exact h.elim
 ·rename_i hag;split at h
  ·rename_i n hn;split at h
   ·rename_i cells hx;obtain ⟨l,hl,h⟩:=h;unfold B8y at hl;split at hl
    ·rename_i hlen; cases hl; exact ⟨_,fun _=>A33 t x ho hag n hn cells hx hlen,h⟩
    ·cases hl
   ·exact h.elim
  ·exact h.elim
 ·exact h.elim
def fnD (wd:Wd) (P:Program) (H:List Blk) (f:FuncId) (args:List AVal) (K:AVal->List Blk->Prop):Prop:=
 match wd with
 | .no=> ∃r,ACallH P f H args H r∧K r H
 | .yes=> ∃r,ACallH P f H args H r∧K r H
 | .loud=> ∃r H',ACallH P f H args H' r∧K r H'
def B6R (wd:Wd) (P:Program) (ρ:Operand->AVal) (H:List Blk) (op:Op) (K:AVal->List Blk->Prop):Prop:=
 match op with
 | .call { callee:= .value fo,args,.. }=>
  match ρ fo with
  | .c (.fn f caps)=>fnD wd P H f (args.toList.map ρ++caps.map A4F) K
  | _=>False
 | .load t x=>if wd.ld=true then B52 P t (ρ x) (fun v=>K v H) else B8z P H t (ρ x) (fun v=>K v H)
 | op=>aop P ρ H op K
def B85 (wd:Wd) (P:Program) (rd:Option Nat) (all:Array Oper) (o:Oper) (tm:List AVal) (H:List Blk) (rv:AVal) (H':List Blk):Prop:=
 (gwant all tm o=some false∧rv= .tup []∧H'=H)∨
 (gwant all tm o=some true∧
  ((isReg wd o.op=true∧isLoud wd o.op=false∧(∀H,AStep P rd o (aeval tm) H rv H)∧H'=H)∨
   (isReg wd o.op=false∧AStep P rd o (aeval tm) H rv H'∧(isLoud wd o.op=false->H'=H))))
def C1Z (h:isReg .no op=true):isReg wd op=true:=by
 unfold isReg at h;split at h<;>first | rfl | (cases h; done)
def B86 (h:isReg wd op=true):isReg .no op=true∨ ∃t x,op= .load t x∧wd.ld=true:=by
 unfold isReg at h;split at h<;>first | exact .inl rfl | exact .inr ⟨_,_,rfl,h⟩ | (cases h; done)
def A7k {all:Array Oper} {o:Oper} {tm:List AVal} {H:List Blk} {K:AVal->List Blk->Prop} (hg:gwant all tm o=some true) (h:B6R wd P (aeval tm) H o.op K): ∃rv H',B85 wd P rd all o tm H rv H'∧K rv H':=by
 have reg: ∀rv,isReg wd o.op=true->(∀H',AStep P rd o (aeval tm) H' rv H')->K rv H-> ∃rv H',B85 wd P rd all o tm H rv H'∧K rv H':=fun rv hr h1 h2=>by
  refine ⟨rv,H,.inr ⟨hg,.inl ⟨hr,?_,h1,rfl⟩⟩,h2⟩;cases hl:isLoud wd o.op with
  | false=>rfl
  | true=>rw [A27 hl] at hr; cases hr
 by_cases hr0:isReg .no o.op=true
 ·have h':aop P (aeval tm) H o.op K:=by
   unfold B6R at h;split at h
   ·rename_i fo args ts e; rw [e] at hr0; cases hr0
   ·rename_i t x e; rw [e] at hr0; cases hr0
   ·exact h
  obtain ⟨rv,h1,h2⟩:=C4z (rd:=rd) hr0 h';exact reg rv (C1Z hr0) h1 h2
 by_cases hrw:isReg wd o.op=true
 ·-- a load of data
  have hl: ∃t x,o.op= .load t x∧wd.ld=true:=(B86 hrw).resolve_left hr0;obtain ⟨t,x,ho,hw⟩:=hl;rw [ho] at h;simp only [B6R] at h;rw [if_pos hw] at h;obtain ⟨rv,h1,h2⟩:=B26 (rd:=rd) ho h;exact reg rv (by rw [ho]; exact hw) h1 h2
 ·have hr':isReg wd o.op=false:=by simpa using hrw
  unfold B6R at h;split at h
  ·rename_i fo args ts e;split at h
   ·rename_i f caps hf;cases wd with
    | loud=>
     obtain ⟨r,H',h1,h2⟩:=h;exact ⟨r,H',.inr ⟨hg,.inr ⟨hr',A3c fo args ts e f caps hf r h1,fun hl=>by rw [e] at hl; simp [isLoud,Wd.lc] at hl⟩⟩,h2⟩
    | no=>
     obtain ⟨r,h1,h2⟩:=h;exact ⟨r,H,.inr ⟨hg,.inr ⟨hr',A3c fo args ts e f caps hf r h1,fun _=>rfl⟩⟩,h2⟩
    | yes=>
     obtain ⟨r,h1,h2⟩:=h;exact ⟨r,H,.inr ⟨hg,.inr ⟨hr',A3c fo args ts e f caps hf r h1,fun _=>rfl⟩⟩,h2⟩
   ·exact h.elim
  ·rename_i t x ho;have hwf: ¬wd.ld=true:=fun e=>by rw [ho] at hr'; have hq:wd.ld=false:=hr'; rw [e] at hq; cases hq
   rw [if_neg hwf] at h;have hq:aop P (aeval tm) H o.op (fun rv H'=>K rv H'∧H'=H):=by
    rw [ho];simp only [aop,B8z] at h ⊢;split at h
    ·split at h
     ·split at h
      ·obtain ⟨c,hc,h⟩:=h; exact ⟨c,hc,h,trivial⟩
      ·exact h.elim
     ·exact ⟨h,trivial⟩
     ·exact ⟨h,trivial⟩
     ·exact h.elim
    ·split at h
     ·split at h
      ·split at h
       ·obtain ⟨c,hc,h⟩:=h; exact ⟨c,hc,h,trivial⟩
       ·exact h.elim
      ·obtain ⟨c,hc,h⟩:=h; exact ⟨c,hc,h,trivial⟩
      ·exact h.elim
     ·exact h.elim
    ·exact h.elim
   obtain ⟨rv,H',h1,h2,h3⟩:=A0Y (rd:=rd) hq;exact ⟨rv,H',.inr ⟨hg,.inr ⟨hr',h1,fun _=>h3⟩⟩,h2⟩
  ·rename_i hne hne2;cases ho:o.op with
   | load t x=>exact absurd ho (hne2 t x)
   | buildSlice t len ps=>rw [ho] at hr0; exact absurd rfl hr0
   | store t x y=>
    obtain ⟨rv,H',h1,h2⟩:=A0Y (rd:=rd) h;exact ⟨rv,H',.inr ⟨hg,.inr ⟨hr',h1,fun hl=>by rw [ho] at hl; cases hl⟩⟩,h2⟩
   | alloc t=>
    obtain ⟨rv,H',h1,h2⟩:=A0Y (rd:=rd) h;exact ⟨rv,H',.inr ⟨hg,.inr ⟨hr',h1,fun hl=>by rw [ho] at hl; cases hl⟩⟩,h2⟩
   | box t x=>
    obtain ⟨rv,H',h1,h2⟩:=A0Y (rd:=rd) h;exact ⟨rv,H',.inr ⟨hg,.inr ⟨hr',h1,fun hl=>by rw [ho] at hl; cases hl⟩⟩,h2⟩
   | makeSlice t x y=>
    obtain ⟨rv,H',h1,h2⟩:=A0Y (rd:=rd) h;exact ⟨rv,H',.inr ⟨hg,.inr ⟨hr',h1,fun hl=>by rw [ho] at hl; cases hl⟩⟩,h2⟩
   | mapEntry t x y=>
    obtain ⟨rv,H',h1,h2⟩:=A0Y (rd:=rd) h;exact ⟨rv,H',.inr ⟨hg,.inr ⟨hr',h1,fun hl=>by rw [ho] at hl; cases hl⟩⟩,h2⟩
   | entryStore t x y z=>
    obtain ⟨rv,H',h1,h2⟩:=A0Y (rd:=rd) h;exact ⟨rv,H',.inr ⟨hg,.inr ⟨hr',h1,fun hl=>by rw [ho] at hl; cases hl⟩⟩,h2⟩
   | mapUpdate t x y z=>
    obtain ⟨rv,H',h1,h2⟩:=A0Y (rd:=rd) h;exact ⟨rv,H',.inr ⟨hg,.inr ⟨hr',h1,fun hl=>by rw [ho] at hl; cases hl⟩⟩,h2⟩
   | makeMap t r=>
    obtain ⟨rv,H',h1,h2⟩:=A0Y (rd:=rd) h;exact ⟨rv,H',.inr ⟨hg,.inr ⟨hr',h1,fun hl=>by rw [ho] at hl; cases hl⟩⟩,h2⟩
   | range t x=>
    obtain ⟨rv,H',h1,h2⟩:=A0Y (rd:=rd) h;exact ⟨rv,H',.inr ⟨hg,.inr ⟨hr',h1,fun hl=>by rw [ho] at hl; cases hl⟩⟩,h2⟩
   | lookup t x y ok=>
    have hq:aop P (aeval tm) H o.op (fun rv H'=>K rv H'∧H'=H):=by
     rw [ho] at h ⊢;exact B3Y h (fun _ _ _ _ h=>⟨h,rfl⟩)
    obtain ⟨rv,H',h1,h2,h3⟩:=A0Y (rd:=rd) hq;exact ⟨rv,H',.inr ⟨hg,.inr ⟨hr',h1,fun _=>h3⟩⟩,h2⟩
   | index t x y=>
    have hq:aop P (aeval tm) H o.op (fun rv H'=>K rv H'∧H'=H):=by
     rw [ho] at h ⊢;simp only [aop] at h ⊢;split at h
     ·obtain ⟨h1,h2,h3,h4,c,h5,h⟩:=h;exact ⟨h1,h2,h3,h4,c,h5,h,trivial⟩
     ·exact h.elim
    obtain ⟨rv,H',h1,h2,h3⟩:=A0Y (rd:=rd) hq;exact ⟨rv,H',.inr ⟨hg,.inr ⟨hr',h1,fun _=>h3⟩⟩,h2⟩
   | entry x=>
    have hq:aop P (aeval tm) H o.op (fun rv H'=>K rv H'∧H'=H):=by
     rw [ho] at h ⊢;simp only [aop] at h ⊢;split at h
     ·split at h
      ·split at h
       ·obtain ⟨e,he,hn,h⟩:=h; exact ⟨e,he,hn,h,trivial⟩
       ·exact h.elim
      ·exact h.elim
     ·exact h.elim
    obtain ⟨rv,H',h1,h2,h3⟩:=A0Y (rd:=rd) hq;exact ⟨rv,H',.inr ⟨hg,.inr ⟨hr',h1,fun _=>h3⟩⟩,h2⟩
   | slice t x lo hi mx=>rw [ho] at hr0; exact absurd rfl hr0
   | makeFunc fn first xs=>
    rw [ho] at h;obtain ⟨rv,h1,h2⟩:=A4I (rd:=rd) (P:=P) (H:=H) (K:=fun v=>K v H) ho h;exact ⟨rv,H,.inr ⟨hg,.inr ⟨hr',h1,fun _=>rfl⟩⟩,h2⟩
   | call c=>
    obtain ⟨callee,args,tys⟩:=c;cases callee with
    | value fo=>exact (hne fo args tys ho).elim
    | invoke r m=>rw [ho] at h; exact h.elim
    | builtin b=>
     cases b
     case append=>
      obtain ⟨rv,H',h1,h2⟩:=A0Y (rd:=rd) h;exact ⟨rv,H',.inr ⟨hg,.inr ⟨hr',h1,fun hl=>by rw [ho] at hl; cases hl⟩⟩,h2⟩
     case copy=>
      obtain ⟨rv,H',h1,h2⟩:=A0Y (rd:=rd) h;exact ⟨rv,H',.inr ⟨hg,.inr ⟨hr',h1,fun hl=>by rw [ho] at hl; cases hl⟩⟩,h2⟩
     all_goals (rw [ho] at hr' h; first | exact h.elim | cases hr')
   | unOp op t x=>rw [ho] at hr'; cases hr'
   | _=>rw [ho] at h hr'; first | exact h.elim | cases hr'
def A10 (wd:Wd) (P:Program) (all:Array Oper):List Oper->List AVal->List Blk->(List AVal->List Blk->Prop)->Prop
 | [],tm,H,K=>K tm H
 | o::rest,tm,H,K=>
  match o.guard with
  | none=>B6R wd P (aeval tm) H o.op (fun rv H'=>A10 wd P all rest (A1a tm o.dst rv) H' K)
  | some (j,b)=>
   match B3T all tm j with
   | .yes b'=>(b'=b->B6R wd P (aeval tm) H o.op (fun rv H'=>A10 wd P all rest (A1a tm o.dst rv) H' K))∧(b'=(!b)->A10 wd P all rest (A1a tm o.dst (.tup [])) H K)
   | .no=>A10 wd P all rest (A1a tm o.dst (.tup [])) H K
   | .unknown=>False
inductive RunD (wd:Wd) (P:Program) (rd:Option Nat) (all:Array Oper):List Oper->List AVal->List Blk->List (AVal×List Blk)->List AVal->List Blk->Prop
 | nil (tm:List AVal) (H:List Blk):RunD wd P rd all [] tm H [] tm H
 | cons {o:Oper} {rest:List Oper} {tm tm':List AVal} {H H' H'':List Blk} {rv:AVal} {l:List (AVal×List Blk)} (hs:B85 wd P rd all o tm H rv H') (hr:RunD wd P rd all rest (A1a tm o.dst rv) H' l tm' H''):
   RunD wd P rd all (o::rest) tm H ((rv,H')::l) tm' H''
def A36 {all:Array Oper} {K:List AVal->List Blk->Prop}: ∀{rest:List Oper} {tm:List AVal} {H:List Blk},A10 wd P all rest tm H K-> ∃l tm' H',RunD wd P rd all rest tm H l tm' H'∧K tm' H':=by
 intro rest
 induction rest with
 | nil=>intro tm H h; exact ⟨[],tm,H,.nil tm H,h⟩
 | cons o rest ih=>
  intro tm H h;have run:gwant all tm o=some true->B6R wd P (aeval tm) H o.op (fun rv H'=>A10 wd P all rest (A1a tm o.dst rv) H' K)-> ∃l tm' H',RunD wd P rd all (o::rest) tm H l tm' H'∧K tm' H':=by
   intro hg h;obtain ⟨rv,H1,h1,h2⟩:=A7k (rd:=rd) hg h;obtain ⟨l,tm',H',h3,h4⟩:=ih h2;exact ⟨_,tm',H',.cons h1 h3,h4⟩
  have pass:gwant all tm o=some false->A10 wd P all rest (A1a tm o.dst (.tup [])) H K-> ∃l tm' H',RunD wd P rd all (o::rest) tm H l tm' H'∧K tm' H':=by
   intro hg h;obtain ⟨l,tm',H',h3,h4⟩:=ih h;exact ⟨_,tm',H',.cons (.inl ⟨hg,rfl,rfl⟩) h3,h4⟩
  simp only [A10] at h;split at h
  ·rename_i hgd; exact run (by simp [gwant,hgd]) h
  ·rename_i j b hgd;split at h
   ·rename_i b' hv;by_cases e:b'=b
    ·exact run (by simp [gwant,hgd,hv,e]) (h.1 e)
    ·exact pass (by simp [gwant,hgd,hv,e]) (h.2 (by cases b<;>cases b'<;>simp_all))
   ·rename_i hv; exact pass (by simp [gwant,hgd,hv]) h
   ·exact h.elim
def RunD.all {all:Array Oper} {rv:Nat->AVal} {Hs:Nat->List Blk} {tm0:List AVal}: ∀{rest:List Oper} {tm tm':List AVal} {H H'':List Blk} {l:List (AVal×List Blk)},RunD wd P rd all rest tm H l tm' H''->
  ∀i,(∀j,rest[j]? =all[i+j]?)->(∀j x,l[j]? =some x->rv (i+j)=x.1∧Hs (i+j+1)=x.2)->tm=replay (A0P all) rv (fun _=>true) i tm0->H=Hs i->
   (∀j o,rest[j]? =some o->B85 wd P rd all o (replay (A0P all) rv (fun _=>true) (i+j) tm0) (Hs (i+j)) (rv (i+j)) (Hs (i+j+1)))∧
   tm'=replay (A0P all) rv (fun _=>true) (i+rest.length) tm0∧H''=Hs (i+rest.length):=by
 intro rest tm tm' H H'' l hr
 induction hr with
 | nil tm H=>intro i _ _ e1 e2; exact ⟨by simp,by simpa using e1,by simpa using e2⟩
 | cons hs _ ih=>
  rename_i o rest tm tm' H H' H'' rv' l _;intro i h1 h2 e1 e2;obtain ⟨q1,q2⟩:=h2 0 _ rfl;have ho:all[i]? =some o:=by have:=h1 0; simpa using this.symm
  have e3:A1a tm o.dst rv'=replay (A0P all) rv (fun _=>true) (i+1) tm0:=by
   simp only [replay,if_true,A0P,ho,Option.bind_some];rw [<-e1]; rw [show rv i=rv' from q1]
  obtain ⟨r1,r2,r3⟩:=ih (i+1) (fun j=>by have:=h1 (j+1); simpa [Wx,Qq5 1 j] using this) (fun j x hj=>by
   have:=h2 (j+1) x hj; rwa [show i+(j+1)=i+1+j by omega] at this) e3 (by simpa using q2.symm)
  refine ⟨fun j o' hj=> ?_,by rw [r2]; simp [Wx,Qq5 1],by rw [r3]; simp [Wx,Qq5 1]⟩;cases j with
  | zero=>
   simp at hj; subst hj;simp only [Nat.add_zero];rw [<-e1,<-e2,show rv i=rv' from q1,show Hs (i+1)=H' from q2];exact hs
  | succ j=>
   have:=r1 j o' hj;rwa [show i+1+j=i+(j+1) by omega] at this
def A42 (md:Region.Mode) (ops:Array Oper):List Nat:=
 let l:=Region.linearise md ops 0
 (List.range ops.size).map fun i=>l.idxOf i
def B1x (wd:Wd) (ops:Array Oper):Bool:=A8L wd ops&&A2i .any ops (A42 .any ops)&&A2i .text ops (A42 .text ops)&&A2i .gc ops (A42 .gc ops)
def AWp.draw {h:Nat} {id:Nat} (hd:B1x wd ops=true) {l:List (AVal×List Blk)} {tm':List AVal} {H':List Blk}
  (hr:RunD wd P rd ops ops.toList tm H l tm' H') (hq:Q .normal ⟨tm',H'⟩):AWp P rd h (.region id ops true) Q ⟨tm,H⟩:=by
 refine ⟨fun N ι σ a w h1 h2 h3 h4=> ?_⟩;simp only [B1x,XV] at hd;obtain ⟨⟨⟨hok,g1⟩,g2⟩,g3⟩:=hd;let rv:Nat->AVal:=fun i=>((l[i]?).map (·.1)).getD (.c .any);let Hs:Nat->List Blk:=fun i=>match i with | 0=>H | i+1=>((l[i]?).map (·.2)).getD H
 obtain ⟨s1,s2,s3⟩:=hr.all (rv:=rv) (Hs:=Hs) (tm0:=tm) 0 (fun j=>by simp) (fun j x hj=>by simp [rv,Hs,hj]) rfl rfl
 let T:Trace wd P rd ops tm H:=⟨fun _=>true,rv,Hs,rfl,fun i o ho=>by
  have:=s1 i o (by simpa using ho);simp only [XX] at this
  exact this⟩
 have hn:ops.toList.length=ops.size:=by simp
 rw [hn] at s2 s3;simp only [XX] at s2 s3;refine wpIn_region_draw fun t=> ?_;obtain ⟨c1,c2⟩:=A8j g1 g2 g3 (P.follows .mixedOrders) t;have hw:Mono ι σ w H ι σ { w with drawn:=w.drawn+1 } H:=⟨fun _ _ _ h h'=>⟨h,h'⟩,fun _ _ h=>h,fun _ tip k h=>⟨tip,k,h,MarkUp.refl _ _ _,.inr ⟨rfl,rfl,fun _ _ u h h'=>⟨h,⟨u,h'⟩,fun hf=>hf⟩⟩⟩⟩;have hE:Ext σ w σ { w with drawn:=w.drawn+1 }:=⟨rfl,rfl,rfl,Qk _,fun _ _ _ h h'=>⟨h,h'⟩,fun _ _ h=>⟨rfl,h⟩,fun _ _ _ h=>h,VV _⟩;have hH:HRel ι σ { w with drawn:=w.drawn+1 } H:=by
  have:=(SRel.cells (w':={ w with drawn:=w.drawn+1 }) h1 (fun _=>rfl) (fun _ _ h _ _=>h) (fun g=>⟨rfl,rfl,rfl,Qk _,fun _ _ _ h h'=>⟨h,h'⟩,fun _ _ _ _=>⟨rfl,fun _=>rfl⟩,VV _⟩)).heap;exact this
 have e0:replay (A0P ops) T.rv (mem []) ops.size tm=tm:=by
  have: ∀m,replay (A0P ops) T.rv (mem []) m tm=tm:=by
   intro m
   induction m with
   | zero=>rfl
   | succ m ih=>simp only [replay,mem,XJ,decide_false,Yk,if_false]; exact ih
  exact this _
 refine T.sound hok _ a.defers ι σ w ?_ (Region.schedule (P.follows .mixedOrders) ops t) [] c1 (fun j o hj=>by cases hj) (fun i hi=> .inr (c2 i hi)) (by simp) ι σ a { w with drawn:=w.drawn+1 } 0 (Xj _) (fun j hj hl=>by simp) ?_ hH (h2.ext hE) hw hE rfl
 ·intro ι' σ' a' w' q1 q2 q3 q4 q5;have e3:T.Hs ops.size=H':=s3.symm;have e2:replay (A0P ops) T.rv (fun _=>true) ops.size tm=tm':=s2.symm;rw [e3] at q1 q2 q3;rw [e2] at q1;exact ⟨ι',σ',⟨tm',H'⟩,hq,⟨q1,q2⟩,q4,q3.take h,by rw [q5]; exact h4.ext q4⟩
 ·rw [e0];exact h1.tmps.mono hw
def AWp.seq_draw {h:Nat} {Q:Exit->St->Prop} {id:Nat} {ops:List Oper} {y:Code} {tm:List AVal} {H:List Blk} (hd:B1x wd ops.toArray=true)
  (hv: ∀K:List AVal->List Blk->Prop,(∀tm' H',AWp P rd h y Q ⟨tm',H'⟩->K tm' H')->A10 wd P ops.toArray ops tm H K):AWp P rd h (.seq (.region id ops.toArray true) y) Q ⟨tm,H⟩:=by
 obtain ⟨l,tm',H',h1,h2⟩:=A36 (rd:=rd) (hv (fun tm' H'=>AWp P rd h y Q ⟨tm',H'⟩) (fun _ _ h=>h));exact AWp.seq (AWp.draw hd (by simpa using h1) h2)
def AWp.last_draw {h:Nat} {Q:Exit->St->Prop} {id:Nat} {ops:List Oper} {tm:List AVal} {H:List Blk} (hd:B1x wd ops.toArray=true)
  (hv: ∀K:List AVal->List Blk->Prop,(∀tm' H',Q .normal ⟨tm',H'⟩->K tm' H')->A10 wd P ops.toArray ops tm H K):AWp P rd h (.region id ops.toArray true) Q ⟨tm,H⟩:=by
 obtain ⟨l,tm',H',h1,h2⟩:=A36 (rd:=rd) (hv (fun tm' H'=>Q .normal ⟨tm',H'⟩) (fun _ _ h=>h));exact AWp.draw hd (by simpa using h1) h2
end
def A7l (n:Nat):AVal->AVal
 | .c .nils=> .c (.slice [] (.chain n))
 | x=>x
def A2t (n:Nat):List Bool->List AVal->List AVal
 | true::bs,x::tm=>A7l n x::A2t n bs tm
 | false::bs,x::tm=>x::A2t n bs tm
 | _,tm=>tm
def A4L (n:Nat): ∀(bs:List Bool) (tm:List AVal),(A2t n bs tm).length=tm.length
 | [],tm=>by simp [A2t]
 | true::bs,[]=>by simp [A2t]
 | false::bs,[]=>by simp [A2t]
 | true::bs,x::tm=>by simp [A2t,A4L n bs tm]
 | false::bs,x::tm=>by simp [A2t,A4L n bs tm]
def A8O (n:Nat): ∀(bs:List Bool) (tm:List AVal) (t:Nat) (x:AVal),(A2t n bs tm)[t]? =some x-> ∃y,tm[t]? =some y∧(x=y∨x=A7l n y)
 | [],tm,t,x,h=>by simp only [A2t] at h; exact ⟨x,h,.inl rfl⟩
 | true::bs,[],t,x,h=>by simp [A2t] at h
 | false::bs,[],t,x,h=>by simp [A2t] at h
 | true::bs,y::tm,0,x,h=>by simp [A2t] at h; exact ⟨y,rfl,.inr h.symm⟩
 | false::bs,y::tm,0,x,h=>by simp [A2t] at h; exact ⟨y,rfl,.inl h.symm⟩
 | true::bs,y::tm,t+1,x,h=>by simp [A2t] at h; simpa using A8O n bs tm t x h
 | false::bs,y::tm,t+1,x,h=>by simp [A2t] at h; simpa using A8O n bs tm t x h
def Weak.opens {h:Nat} (bs:List Bool) (k:Nat) {tm:List AVal} {H:List Blk} (hh:h≤H.length):Weak h ⟨tm,H⟩ ⟨A2t H.length bs tm,H++[.chain 0 k]⟩:=by
 intro ι σ a w hr;have hl:ι.length=H.length:=hr.heap.1;have M:Mono ι σ w H (ι++[0]) σ w (H++[.chain 0 k]):=Mono.grow (fun _ _=>rfl) (fun _ _ _=>rfl) _ _;refine ⟨ι++[0],⟨⟨by rw [hr.tmps.1,A4L],fun t x v h1 h2=> ?_⟩,hr.heap.grow (fun _ _=>rfl) (fun _ _ _=>rfl) ⟨rfl,rfl,rfl,Qk _,Qk _⟩ _ _ rfl (fun j blk b h1 h2=> ?_)⟩,?_,?_⟩
 ·obtain ⟨y,hy,hx⟩:=A8O _ _ _ _ _ h1;have h3:=M.v (hr.tmps.2 t y v hy h2);rcases hx with rfl | rfl
  ·exact h3
  ·unfold A7l;split
   ·cases h3;exact ⟨.nil _ _,0,k,by simp,by simp,trivial,fun _=> .inl rfl⟩
   ·exact h3
 ·cases j with
  | zero=>simp at h1; subst h1; trivial
  | succ j=>simp at h1
 ·rw [ZZ (by omega)]
 ·simp only; rw [ZZ hh]
variable {K:List AVal->List Blk->Prop} {b:Bool}
section
variable {P:Program} {all:Array Oper} {wd:Wd}
@[congr] theorem C40 {rest:List Oper} {tm tm':List AVal} {H H':List Blk} (h1:tm=tm') (h2:H=H'):A1U P all rest tm H K=A1U P all rest tm' H' K:=by rw [h1,h2]
@[congr] theorem C3O {rest:List Oper} {tm tm':List AVal} {H H':List Blk} (h1:tm=tm') (h2:H=H'):A10 wd P all rest tm H K=A10 wd P all rest tm' H' K:=by rw [h1,h2]
def C6o {rest:List Oper} (hg:o.guard=none)
  (h: ∀K':AVal->List Blk->Prop,(∀rv H',A1U P all rest (A1a tm o.dst rv) H' K->K' rv H')->aop P (aeval tm) H o.op K'):A1U P all (o::rest) tm H K:=by
 simp only [A1U,hg]; exact h _ (fun _ _ h=>h)
def C41 {rest:List Oper} (hg:o.guard=none)
  (h: ∀K':AVal->List Blk->Prop,(∀rv H',A10 wd P all rest (A1a tm o.dst rv) H' K->K' rv H')->B6R wd P (aeval tm) H o.op K'):A10 wd P all (o::rest) tm H K:=by
 simp only [A10,hg]; exact h _ (fun _ _ h=>h)
def C42 {rest:List Oper} {b b':Bool} (hg:o.guard=some (j,b)) (hv:B3T all tm j= .yes b')
  (h:b'=b-> ∀K':AVal->List Blk->Prop,(∀rv H',A1U P all rest (A1a tm o.dst rv) H' K->K' rv H')->aop P (aeval tm) H o.op K') (h2:b'=(!b)->A1U P all rest (A1a tm o.dst (.tup [])) H K):A1U P all (o::rest) tm H K:=by
 simp only [A1U,hg,hv]; exact ⟨fun e=>h e _ (fun _ _ h=>h),h2⟩
def C2a {rest:List Oper} {b b':Bool} (hg:o.guard=some (j,b)) (hv:B3T all tm j= .yes b')
  (h:b'=b-> ∀K':AVal->List Blk->Prop,(∀rv H',A10 wd P all rest (A1a tm o.dst rv) H' K->K' rv H')->B6R wd P (aeval tm) H o.op K') (h2:b'=(!b)->A10 wd P all rest (A1a tm o.dst (.tup [])) H K):A10 wd P all (o::rest) tm H K:=by
 simp only [A10,hg,hv]; exact ⟨fun e=>h e _ (fun _ _ h=>h),h2⟩
def C43 {rest:List Oper} (hg:o.guard=some (j,b)) (hv:B3T all tm j= .no)
  (h2:A1U P all rest (A1a tm o.dst (.tup [])) H K):A1U P all (o::rest) tm H K:=by
 simp only [A1U,hg,hv]; exact h2
def C2b {rest:List Oper} (hg:o.guard=some (j,b)) (hv:B3T all tm j= .no)
  (h2:A10 wd P all rest (A1a tm o.dst (.tup [])) H K):A10 wd P all (o::rest) tm H K:=by
 simp only [A10,hg,hv]; exact h2
def gi1 {a b:Int} (h:a≤b):a≤b:=h
def gi2 {a b:Int} (h:a<b):a<b:=h
def gi3 {a b:Int} (h:a=b):a=b:=h
def gn1 {a b:Nat} (h:a≤b):a≤b:=h
def gn2 {a b:Nat} (h:a<b):a<b:=h
def gn3 {a b:Nat} (h:a=b):a=b:=h
def C8d {p:Prop} (h: ¬p): ¬p:=h
def C71 (h:K tm H):A1U P all [] tm H K:=h
def C6p (h:K tm H):A10 wd P all [] tm H K:=h
end
section
variable {P:Program} {rd:Option Nat} {h:Nat} {Q:Exit->St->Prop}
def AWp.seq_next {rid:Nat} {rest:List Oper} {y:Code} (ho:o.op= .next x false) (hgd:o.guard=none)
  {id m:Nat} {seen:List Nat} {es:List (MKey×MV)} (hx:aeval tm x= .c (.iter id)) (h1:H[id]? =some (.iter m es.length seen)) (h2:H[m]? =some (.map es))
  (hdone:(∀j,j<es.length->j∈seen)-> ∀K:List AVal->List Blk->Prop,(∀tm' H',AWp P rd h y Q ⟨tm',H'⟩->K tm' H')->A1U P (o::rest).toArray rest (A1a tm o.dst (.tup [.c (.bool false)])) H K)
  (hstep: ∀j e,j∉seen->es[j]? =some e-> ∀K:List AVal->List Blk->Prop,(∀tm' H',AWp P rd h y Q ⟨tm',H'⟩->K tm' H')->
   A1U P (o::rest).toArray rest (A1a tm o.dst (.tup [.c (.bool true),A8I e.1,A5B e.2])) (H.set id (.iter m es.length (seen++[j]))) K):
  AWp P rd h (.seq (.region rid (o::rest).toArray false) y) Q ⟨tm,H⟩:=by
 refine AWp.seq ⟨fun N ι σ a w r1 r2 r3 r4=>wpIn_region_list ?_⟩;have hd: ∀c,o.op≠ .defer c:=by simp [ho]
 have hg:gwant (o::rest).toArray tm o=some true:=by simp [gwant,hgd]
 show wpListIn _ _ _ _ _ (o::rest) a w;unfold wpListIn;rw [if_pos (A07 r1.tmps hg)];refine ⟨fun _ _=>trivial,?_⟩;rw [Oper.semAt_eq _ _ _ hd];have hv:=A0J r1.tmps x;rw [hx] at hv;obtain ⟨b,hb,ev⟩:=hv;obtain ⟨hm,bm,hbm,hob⟩:=r1.heap.2 id _ b h1 hb;obtain ⟨hmm,arr,hmo,hsz,hent⟩:=r1.heap.2 m _ bm h2 hbm;have hidne:b≠bm:=by rintro rfl; rw [hob] at hmo; cases hmo
 have hborn: ∀j (hj:j<arr.size),arr[j].born=j:=fun j hj=>by
  have hje:j<es.length:=by rw [<-hsz]; exact hj
  exact (hent j _ _ (Qq hje) (QZ hj)).1
 have hold: ∀e,e∈arr.toList->e.born<es.length:=fun e he=>by
  obtain ⟨j,hj,rfl⟩:=Jk.1 he;have hj':j<arr.size:=by simpa using hj
  rw [Array.getElem_toList,hborn j hj',<-hsz]; exact hj'
 have fin: ∀{tm':List AVal} {H1:List Blk} {v:Value} {w':World} {rv:AVal},VRel ι σ w' H1 rv v->HRel ι σ w' H1->Mono ι σ w H ι σ w' H1->Ext σ w σ w'->
   (∀K:List AVal->List Blk->Prop,(∀tm' H',AWp P rd h y Q ⟨tm',H'⟩->K tm' H')->A1U P (o::rest).toArray rest (A1a tm o.dst rv) H1 K)->
   wpListIn (Fr rd) 9 P (o::rest).toArray (APost N h ι σ w H (A2G (AWp P rd h y Q) Q)) rest (a.put o.dst v) w':=by
  intro tm' H1 v w' rv q1 q2 q3 q4 hk;obtain ⟨tm2,H2,hr,hq⟩:=A2s (rd:=rd) (hk (fun tm' H'=>AWp P rd h y Q ⟨tm',H'⟩) (fun _ _ h=>h));refine hr.sound ι σ _ w' (A0K (r1.tmps.mono q3) q1) q2 (r2.ext q4) _ ?_;intro ι' σ' a' w2 s1 s2 s3 s4 s5;refine ⟨ι',σ',⟨tm2,H2⟩,hq,⟨s1,s2⟩,q4.trans s4,?_,?_⟩
  ·exact (q3.trans s3).take h
  ·rw [s5,Act.put_defers]; exact r4.ext (q4.trans s4)
 have hex: ∀{v:Value} {w':World},(Instr.next (.pointer (some ⟨b,0,none⟩)) false o.type).run P w= .ok v w'->(execOp a.eval o).run P w= .ok (.value v) w':=fun hr=>by
  simp only [execOp,ho,ev,Sem.run_bind,hr,Result.andThen_ok,Sem.run_pure]
 rcases run_next_at w o.type b bm es.length es.length seen.toArray arr es.length hob hmo hold (Qk _) with ⟨hz,hrun⟩ | ⟨e,he,w1,hw1,hrun⟩
 ·rw [hex hrun];refine fin (tm':=tm) (rv:= .tup [.c (.bool false)]) ⟨_,rfl,rfl,fun j x u q1 q2=> ?_⟩ r1.heap (Mono.refl ..) (Ext.refl ..) (hdone fun j hj=> ?_)
  ·match j with
   | 0=>simp at q1 q2; subst q1; subst q2; exact rfl
   | j+1=>simp at q1
  ·have hja:j<arr.size:=by rw [hsz]; exact hj
   have hemp:leftOf arr seen.toArray= #[]:=Array.eq_empty_of_size_eq_zero hz;unfold leftOf at hemp;rw [Array.filter_eq_empty_iff] at hemp;have:=hemp arr[j] (Array.getElem_mem hja);rw [hborn j hja] at this;simpa using this
 ·have hmem:e∈arr∧e.born∉seen:=by
   unfold leftOf at he;simp at he;exact ⟨he.1,by simpa using he.2⟩
  obtain ⟨j,hj,hje⟩:=Array.mem_iff_getElem.1 hmem.1;subst hje;have hjb:=hborn j hj;have hje:j<es.length:=by rw [<-hsz]; exact hj
  obtain ⟨p1,p2,p3⟩:=hent j _ _ (Qq hje) (QZ hj);have hw:HRel ι σ w1 H∧Mono ι σ w H ι σ w1 H∧Ext σ w σ w1∧w1.heap[b]? =some (.mapIter (some bm) es.length seen.toArray es.length):=by
   rcases hw1 with rfl | rfl
   ·exact ⟨r1.heap,Mono.refl ..,Ext.refl ..,hob⟩
   ·exact ⟨(SRel.cells (w':=w.drew) r1 (fun _=>rfl) (fun _ _ h _ _=>h) (fun g=>⟨rfl,rfl,rfl,Qk _,fun _ _ _ h h'=>⟨h,h'⟩,fun _ _ _ _=>⟨rfl,fun _=>rfl⟩,VV _⟩)).heap,⟨fun _ _ _ h h'=>⟨h,h'⟩,fun _ _ h=>h,fun _ tip k h=>⟨tip,k,h,MarkUp.refl _ _ _,.inr ⟨rfl,rfl,fun _ _ u h h'=>⟨h,⟨u,h'⟩,fun hf=>hf⟩⟩⟩⟩,
     ⟨rfl,rfl,rfl,Qk _,fun _ _ _ h h'=>⟨h,h'⟩,fun _ _ h=>⟨rfl,h⟩,fun _ _ _ h=>h,VV _⟩,hob⟩
  obtain ⟨k1,k2,k3,k4⟩:=hw;obtain ⟨g1,g2,g3⟩:=B0j (ob':= .mapIter (some bm) es.length (seen.toArray.push j) es.length) (blk':= .iter m es.length (seen++[j])) k1 h1 hb hm k4 (by intro _ _ _; simp) (by intro _ _ _; simp) (by intro _ _; simp)
   (fun M q=>⟨hm,bm,hbm,by simpa using q⟩)
  rw [hjb] at hrun;rw [hex hrun];refine fin (tm':=tm) (rv:= .tup [.c (.bool true),A8I es[j].1,A5B es[j].2]) ⟨_,rfl,rfl,fun i x u q1 q2=> ?_⟩ g1 (k2.trans g2) (k3.trans g3) (hstep j _ (by rw [<-hjb]; exact hmem.2) (Qq hje))
  match i with
  | 0=>simp at q1 q2; subst q1; subst q2; exact rfl
  | 1=>simp at q1 q2; subst q1; subst q2; rw [p2]; exact B0k _
  | 2=>simp at q1 q2; subst q1; subst q2; exact A4H ((k2.trans g2).mv p3)
  | i+3=>simp at q1
end
section
def isSoft:Op->Bool
 | .lookup _ _ _ ok=> !ok
 | _=>false
def C6q:Op->Bool
 | .mapEntry .. =>true
 | _=>false
def isME:Op->Bool
 | .mapEntry .. =>true
 | .call { callee:= .builtin .append,.. }=>true
 | _=>false
def A5w (a b:Oper):Bool:=isSoft a.op&&isME b.op
def A5I (all:Array Oper) (a b:Oper):Bool:=
 (a.dst.toList.any (fun t=>(A17 all b).contains t)||b.dst.toList.any (fun t=>(A17 all a).contains t))||(((isLoud .no a.op&& !isReg .no b.op)||(isLoud .no b.op&& !isReg .no a.op))&& !A5w a b)
def A7m (h:isSoft op=true):isLoud .no op=false:=by
 cases op<;>simp [isSoft] at h<;>rfl
def B27 (h:isSoft op=true):isReg .no op=false:=by
 cases op<;>simp [isSoft] at h<;>rfl
def A4n (h:isLoud .no op=true):isSoft op=false:=by
 cases hs:isSoft op with
 | false=>rfl
 | true=>rw [A7m hs] at h; cases h
def B1y (ops:Array Oper):Bool:=
 let b:=A1L ops.toList []
 ops.toList.zipIdx.all fun (y,j)=>ops.toList.zipIdx.all fun (x,i)=> !(decide (i<j))|| !A5I ops x y||(b.getD j 0).testBit i
def A0S (h:B1y ops=true) {i j:Nat} {x y:Oper} (hx:ops[i]? =some x) (hy:ops[j]? =some y) (hij:i<j) (hc:A5I ops x y=true) {X:List Nat} (hX:Down ops X)
  (he: ∀e,e∈y.after->Region.binds .any e=true->e.on∈X):i∈X:=by
 unfold B1y at h;simp only [ZX] at h;have m: ∀(k:Nat) z,ops[k]? =some z->(z,k)∈ops.toList.zipIdx:=fun k z hz=>by
  rw [Zj];refine ⟨k,?_⟩;rw [Qj3];simp [hz]
 have h1:=h (y,j) (m j y hy) (x,i) (m i x hx);simp only [hij,hc,decide_true,Qq4,Qq7] at h1;have hb:B84 ops (A1L ops.toList []):=A8M ops ops.toList [] [] (by simp) rfl (by intro j m hj; simp at hj);cases hg:(A1L ops.toList [])[j]? with
 | none=>simp [List.getD,hg] at h1
 | some m=>
  simp [List.getD,hg] at h1;exact hb j m hg X hX (fun o ho e h2 h3=>by rw [hy] at ho; cases ho; exact he e h2 h3) i h1
def B87 {all:Array Oper} {a b:Oper} {t:Tmp} (h:a.dst=some t) (hb:t∈A17 all b):A5I all a b=true:=by
 simp only [A5I,YV];left; left;rw [h]; simp only [Option.toList_some,List.any_cons,List.any_nil,Qw8];exact Qz7.2 hb
def B88 {all:Array Oper} {a b:Oper} {t:Tmp} (h:b.dst=some t) (hb:t∈A17 all a):A5I all a b=true:=by
 simp only [A5I,YV];left; right;rw [h]; simp only [Option.toList_some,List.any_cons,List.any_nil,Qw8];exact Qz7.2 hb
def A4M {all:Array Oper} {a b:Oper} (h:isLoud .no a.op=true) (hb:isReg .no b.op=false):A5I all a b=true:=by
 simp only [A5I,YV,XV,Ww,A5w];right; exact ⟨.inl ⟨h,hb⟩,by rw [A4n h]; rfl⟩
def A4N {all:Array Oper} {a b:Oper} (h:isLoud .no b.op=true) (hb:isReg .no a.op=false) (hs:A5w a b=false):A5I all a b=true:=by
 simp only [A5I,YV,XV,Ww];right; exact ⟨.inr ⟨h,hb⟩,hs⟩
def B53 {a b:Oper} (h:isSoft a.op=false):A5w a b=false:=by simp [A5w,h]
structure TraceM (P:Program) (rd:Option Nat) (ops:Array Oper) (tm0:List AVal) (H0:List Blk) where
 ex:Nat->Bool
 rv:Nat->AVal
 Hs:Nat->List Blk
 start:Hs 0=H0
 ok : ∀(i:Nat) o,ops[i]? =some o->let tm:=replay (fun j=>(ops[j]?).bind (·.dst)) rv (fun _=>true) i tm0
  (gwant ops tm o=some false∧rv i= .tup []∧Hs (i+1)=Hs i)∨
  (gwant ops tm o=some true∧
   ((isReg .no o.op=true∧isLoud .no o.op=false∧(∀H,AStep P rd o (aeval tm) H (rv i) H)∧Hs (i+1)=Hs i)∨
    (isSoft o.op=false∧isReg .no o.op=false∧AStep P rd o (aeval tm) (Hs i) (rv i) (Hs (i+1))∧(isLoud .no o.op=false->Hs (i+1)=Hs i))∨
    (isSoft o.op=true∧Hs (i+1)=Hs i∧ ∀k,i≤k->(∀j o',i<j->j<k->ops[j]? =some o'->isLoud .no o'.op=true->isME o'.op=true)->k≤ops.size->AStep P rd o (aeval tm) (Hs k) (rv i) (Hs k))))
variable {P:Program} {rd:Option Nat} {ops:Array Oper} {tm0:List AVal} {H0:List Blk}
def TraceM.quiet (T:TraceM P rd ops tm0 H0) {j:Nat} (hj:j<ops.size) (h:A1h .no ops j=false):T.Hs (j+1)=T.Hs j:=by
 have ho:ops[j]? =some ops[j]:=QZ hj;have hl:isLoud .no ops[j].op=false:=by simpa [A1h,ho] using h
 rcases T.ok j _ ho with ⟨_,_,h1⟩ | ⟨_,⟨_,_,_,h1⟩ | ⟨_,_,_,h1⟩ | ⟨_,h1,_⟩⟩
 ·exact h1
 ·exact h1
 ·exact h1 hl
 ·exact h1
def TraceM.same (T:TraceM P rd ops tm0 H0): ∀(d k:Nat),k+d≤ops.size->(∀j,k≤j->j<k+d->A1h .no ops j=false)->T.Hs (k+d)=T.Hs k:=by
 intro d
 induction d with
 | zero=>intro k _ _; rfl
 | succ d ih=>
  intro k hk h;have:=T.quiet (j:=k+d) (by omega) (h _ (by omega) (by omega));rw [show k+(d+1)=k+d+1 by omega,this];exact ih k (by omega) (fun j h1 h2=>h j h1 (by omega))
def TraceM.agree (T:TraceM P rd ops tm0 H0) {k i:Nat} (hk:k≤ops.size) (hi:i≤ops.size) (h: ∀j,j<ops.size->A1h .no ops j=true->(j<k↔j<i)):T.Hs k=T.Hs i:=by
 have q: ∀a b,a≤b->b≤ops.size->(∀j,j<ops.size->A1h .no ops j=true->(j<a↔j<b))->T.Hs b=T.Hs a:=by
  intro a b hab hb h
  have:=T.same (b-a) a (by omega) (fun j h1 h2=>by
   cases hl:A1h .no ops j with
   | false=>rfl
   | true=>have:=(h j (by omega) hl).2 (by omega); omega)
  rwa [show a+(b-a)=b by omega] at this
 by_cases hki:k≤i
 ·exact (q k i hki hi h).symm
 ·exact q i k (by omega) hk (fun j h1 h2=>(h j h1 h2).symm)
def TraceM.sound (T:TraceM P rd ops tm0 H0) (hok:B1y ops=true) (Q:Exit->Act->World->Prop) (ds:List Deferred) (ι0:List Nat) (σ0:Sig) (w0:World)
  (hq: ∀ι σ a w,TmpsRel ι σ w (T.Hs ops.size) (replay (A0P ops) T.rv (fun _=>true) ops.size tm0) a.tmps->HRel ι σ w (T.Hs ops.size)->Mono ι0 σ0 w0 H0 ι σ w (T.Hs ops.size)->Ext σ0 w0 σ w->a.defers=ds->Q .normal a w):
  ∀ (s X:List Nat),Sched ops X s->Down ops X->(∀i,i<ops.size->i∈X∨i∈s)->(∀i,i∈X->i<ops.size)->
   ∀ι σ a w k,k≤ops.size->(∀j,j<ops.size->A1h .no ops j=true->(j∈X↔j<k))->TmpsRel ι σ w (T.Hs k) (replay (A0P ops) T.rv (mem X) ops.size tm0) a.tmps->HRel ι σ w (T.Hs k)->RdOK rd σ w->
    Mono ι0 σ0 w0 H0 ι σ w (T.Hs k)->Ext σ0 w0 σ w->a.defers=ds->wpOpsIn (Fr rd) 9 P ops Q s a w:=by
 intro s
 induction s with
 | nil=>
  intro X _ _ hcov _ ι σ a w k hk hkX h1 h2 h3 h4 h5 h6;have hall: ∀i,i<ops.size->i∈X:=fun i hi=>by rcases hcov i hi with h | h; exact h; cases h
  have eH:T.Hs k=T.Hs ops.size:=T.agree hk (Qk _) (fun j hj hl=>⟨fun _=>hj,fun _=>(hkX j hj hl).1 (hall j hj)⟩);have eR:replay (A0P ops) T.rv (mem X) ops.size tm0=replay (A0P ops) T.rv (fun _=>true) ops.size tm0:=by
   apply Zq;intro t;exact A1Y _ (fun j hj _=>by simp [mem,hall j hj])
  rw [eH] at h1 h2 h4;rw [eR] at h1;exact hq ι σ a w h1 h2 h4 h5 h6
 | cons i s ih=>
  intro X hs hD hcov hlt ι σ a w k hk hkX h1 h2 h3 h4 h5 h6;cases hs with
  | cons ho hi hd hs=>
  rename_i o;have hin:i<ops.size:=(Xz.1 ho).1;have names: ∀t,t∈A17 ops o-> ∀j,j<ops.size->A0P ops j=some t->j≠i->(j∈X↔j<i):=by
   intro t ht j hj hdj hne;have hoj:ops[j]? =some ops[j]:=QZ hj;have hdj':ops[j].dst=some t:=by simpa [A0P,hoj] using hdj
   by_cases hji:j<i
   ·refine ⟨fun _=>hji,fun _=>A0S hok hoj ho hji (B87 hdj' ht) hD hd⟩
   ·have hij:i<j:=by omega
    refine ⟨fun hX=> ?_,fun h=>absurd h hji⟩;exact absurd (A0S hok ho hoj hij (B88 hdj' ht) hD (fun e he hb=>hD j _ hX hoj e he hb)) hi
  have tmEq: ∀t,t∈A17 ops o->(replay (A0P ops) T.rv (mem X) ops.size tm0)[t]? =(replay (A0P ops) T.rv (fun _=>true) i tm0)[t]? :=by
   intro t ht;rw [<-B25 i ops.size (by omega)];refine A1Y _ (fun j hj hdj=> ?_);by_cases e:j=i
   ·subst e; simp [mem,hi]
   ·have:=names t ht j hj hdj e;simp only [mem,this]
  have evEq: ∀x,x∈o.op.operands->aeval (replay (A0P ops) T.rv (mem X) ops.size tm0) x=aeval (replay (A0P ops) T.rv (fun _=>true) i tm0) x:=fun x hx=>
   A5T fun t ht=>tmEq t (by
    simp only [A17,XZ];left; right
    exact Jy.2 ⟨x,by simpa using hx,ht⟩)
  have gEq:gwant ops (replay (A0P ops) T.rv (mem X) ops.size tm0) o=gwant ops (replay (A0P ops) T.rv (fun _=>true) i tm0) o:=
   A5U fun t ht=>tmEq t (by simp only [A17,XZ]; right; exact ht)
  have after:A1a (replay (A0P ops) T.rv (mem X) ops.size tm0) o.dst (T.rv i)=replay (A0P ops) T.rv (mem (i::X)) ops.size tm0:=by
   apply Zq;intro t;have hdi:A0P ops i=o.dst:=by simp [A0P,ho]
   by_cases hdt:o.dst=some t
   ·have htn:t∈A17 ops o:=by simp only [A17,XZ]; left; left; rw [hdt]; simp
    by_cases hl:t<tm0.length
    ·rw [hdt,A5S (by rw [A0R]; exact hl)];symm;refine A8N (by simp [mem]) (by rw [hdi]; exact hdt) hl _ hin (fun j hij hj hdj=> ?_);have:=names t htn j hj hdj (by omega);simp only [mem,QV,decide_eq_false_iff_not,not_or];exact ⟨by omega,fun h=>by have:=this.1 h; omega⟩
    ·rw [Xq (by rw [A1r,A0R]; exact Qx0.1 hl),Xq (by rw [A0R]; exact Qx0.1 hl)]
   ·rw [A3H hdt];refine A1Y _ (fun j hj hdj=> ?_);have hne:j≠i:=fun e=>hdt (by rw [<-hdi,<-e]; exact hdj);simp [mem,hne]
  have hD':Down ops (i::X):=by
   intro j o' hj hoj e he hb;rcases QV.1 hj with rfl | hj
   ·rw [ho] at hoj; cases hoj; exact YY _ (hd e he hb)
   ·exact YY _ (hD j o' hj hoj e he hb)
  have hcov': ∀j,j<ops.size->j∈i::X∨j∈s:=fun j hj=>by
   rcases hcov j hj with h | h
   ·exact .inl (YY _ h)
   ·rcases QV.1 h with rfl | h
    ·exact .inl (by simp)
    ·exact .inr h
  have hlt': ∀j,j∈i::X->j<ops.size:=fun j hj=>by rcases QV.1 hj with rfl | hj; exact hin; exact hlt j hj
  have stay:isLoud .no o.op=false∨T.Hs (i+1)=T.Hs i-> ∃k',k'≤ops.size∧(∀j,j<ops.size->A1h .no ops j=true->(j∈i::X↔j<k'))∧(isLoud .no o.op=false->T.Hs k'=T.Hs k):=by
   intro _;cases hl:isLoud .no o.op with
   | false=>
    refine ⟨k,hk,fun j hj hlj=> ?_,fun _=>rfl⟩;have hne:j≠i:=by rintro rfl; simp [A1h,ho,hl] at hlj
    simp only [QV,hne,false_or];exact hkX j hj hlj
   | true=>
    refine ⟨i+1,by omega,fun j hj hlj=> ?_,fun h=>by cases h⟩;have hoj:ops[j]? =some ops[j]:=QZ hj;have hlj':isLoud .no ops[j].op=true:=by simpa [A1h,hoj] using hlj
    have hrj:isReg .no ops[j].op=false:=A27 hlj';by_cases e:j=i
    ·subst e; simp
    ·simp only [QV,e,false_or];by_cases hji:j<i
     ·refine ⟨fun _=>by omega,fun _=>A0S hok hoj ho hji (A4N hl hrj (B53 (A4n hlj'))) hD hd⟩
     ·have hij:i<j:=by omega
      refine ⟨fun hX=> ?_,fun h=>by omega⟩;exact absurd (A0S hok ho hoj hij (A4M hl hrj) hD (fun e he hb=>hD j _ hX hoj e he hb)) hi
  have heapEq:isReg .no o.op=false->isSoft o.op=false->T.Hs k=T.Hs i:=by
   intro hr hns;refine T.agree hk (by omega) (fun j hj hlj=> ?_);have hoj:ops[j]? =some ops[j]:=QZ hj;have hlj':isLoud .no ops[j].op=true:=by simpa [A1h,hoj] using hlj
   by_cases e:j=i
   ·subst e; rw [<-hkX j hj hlj]; exact ⟨fun h=>absurd h hi,fun h=>by omega⟩
   ·rw [<-hkX j hj hlj];by_cases hji:j<i
    ·refine ⟨fun _=>hji,fun _=>A0S hok hoj ho hji (A4M hlj' hr) hD hd⟩
    ·have hij:i<j:=by omega
     refine ⟨fun hX=> ?_,fun h=>by omega⟩;exact absurd (A0S hok ho hoj hij (A4N hlj' hr (B53 hns)) hD (fun e he hb=>hD j _ hX hoj e he hb)) hi
  unfold wpOpsIn;simp only [ho];rcases T.ok i o ho with ⟨hg,hrv,hH⟩ | ⟨hg,hcase⟩
  ·-- passed over
   rw [if_neg (by rw [A07 h1 (gEq.trans hg)]; simp)];refine ⟨fun _ _=>trivial,?_⟩;obtain ⟨k',hk',hkX',hHk⟩:=stay (.inr hH);have eH:T.Hs k'=T.Hs k:=by
    cases hl:isLoud .no o.op with
    | false=>exact hHk hl
    | true=>
     have hr:isReg .no o.op=false:=A27 hl;have hns:=A4n hl;rw [heapEq hr hns]
     have:T.Hs k'=T.Hs (i+1):=T.agree hk' (by omega) (fun j hj hlj=>by
      rw [<-hkX' j hj hlj];have h7:=hkX j hj hlj;by_cases e:j=i
      ·subst e; simp
      ·simp only [QV,e,false_or];rw [h7];have h8:T.Hs k=T.Hs i:=heapEq hr hns;have hoj:ops[j]? =some ops[j]:=QZ hj;have hlj':isLoud .no ops[j].op=true:=by simpa [A1h,hoj] using hlj
       rw [<-h7];by_cases hji:j<i
       ·refine ⟨fun _=>by omega,fun _=>A0S hok hoj ho hji (A4M hlj' hr) hD hd⟩
       ·have hij:i<j:=by omega
        refine ⟨fun hX=> ?_,fun h=>by omega⟩
        exact absurd (A0S hok ho hoj hij (A4N hlj' hr (B53 hns)) hD (fun e he hb=>hD j _ hX hoj e he hb)) hi)
     rw [this,hH]
   rw [<-eH] at h1 h2 h4;have h1':=A0K h1 (d:=o.dst) (x:= .tup []) (v:=undef) A25;rw [<-hrv,after] at h1';exact ih (i::X) hs hD' hcov' hlt' ι σ _ w k' hk' hkX' h1' h2 h3 h4 h5 (by rw [Act.put_defers]; exact h6)
  ·rw [if_pos (A07 h1 (gEq.trans hg))];rcases hcase with ⟨hreg,hnl,hstep,hH⟩ | ⟨hns,hreg,hstep,hH⟩ | ⟨hsoft,hH,hstep⟩
   ·refine hstep (T.Hs k) ι σ a w (fun x hx=>by rw [<-evEq x hx]; exact A0J h1 x) h2 h3 _ _ ?_;intro v w' ι' σ' r1 r2 r3 r4;obtain ⟨k',hk',hkX',hHk⟩:=stay (.inl hnl);have h1':=A0K (h1.mono r3) (d:=o.dst) r1;rw [after] at h1';have eH:=hHk hnl;rw [<-eH] at h1' r2 r3;exact ih (i::X) hs hD' hcov' hlt' ι' σ' _ w' k' hk' hkX' h1' r2 (h3.ext r4) ((eH▸h4).trans (by rw [eH] at r3 ⊢; exact r3)) (h5.trans r4) (by rw [Act.put_defers]; exact h6)
   ·have eH:=heapEq hreg hns;rw [eH] at h1 h2 h4;refine hstep ι σ a w (fun x hx=>by rw [<-evEq x hx]; exact A0J h1 x) h2 h3 _ _ ?_;intro v w' ι' σ' r1 r2 r3 r4;have h1':=A0K (h1.mono r3) (d:=o.dst) r1;rw [after] at h1';cases hl:isLoud .no o.op with
    | false=>
     have e2:T.Hs (i+1)=T.Hs k:=by rw [hH hl,eH]
     rw [e2] at h1' r2 r3;rw [<-eH] at h4 r3;obtain ⟨k',hk',hkX',hHk⟩:=stay (.inl hl);have e3:=hHk hl;rw [<-e3] at h1' r2 r3 h4;exact ih (i::X) hs hD' hcov' hlt' ι' σ' _ w' k' hk' hkX' h1' r2 (h3.ext r4) (h4.trans r3) (h5.trans r4) (by rw [Act.put_defers]; exact h6)
    | true=>
     have hkX': ∀j,j<ops.size->A1h .no ops j=true->(j∈i::X↔j<i+1):=by
      intro j hj hlj;have hoj:ops[j]? =some ops[j]:=QZ hj;have hlj':isLoud .no ops[j].op=true:=by simpa [A1h,hoj] using hlj
      by_cases e:j=i
      ·subst e; simp
      ·simp only [QV,e,false_or];by_cases hji:j<i
       ·refine ⟨fun _=>by omega,fun _=>A0S hok hoj ho hji (A4M hlj' hreg) hD hd⟩
       ·have hij:i<j:=by omega
        refine ⟨fun hX=> ?_,fun h=>by omega⟩;exact absurd (A0S hok ho hoj hij (A4N hlj' hreg (B53 hns)) hD (fun e he hb=>hD j _ hX hoj e he hb)) hi
     exact ih (i::X) hs hD' hcov' hlt' ι' σ' _ w' (i+1) (by omega) hkX' h1' r2 (h3.ext r4) (h4.trans r3) (h5.trans r4) (by rw [Act.put_defers]; exact h6)
   ·-- a soft one: the boxes are those of the text, and perhaps an entry more
    have hreg:=B27 hsoft;have hnl:=A7m hsoft;have hahead: ∀j,j<i->A1h .no ops j=true->j<k:=fun j hji hlj=>by
     have hj:j<ops.size:=by omega
     have hoj:ops[j]? =some ops[j]:=QZ hj;have hlj':isLoud .no ops[j].op=true:=by simpa [A1h,hoj] using hlj
     exact (hkX j hj hlj).1 (A0S hok hoj ho hji (A4M hlj' hreg) hD hd)
    have hbehind: ∀j o',i<j->j<k->ops[j]? =some o'->isLoud .no o'.op=true->isME o'.op=true:=fun j o' hij hjk hoj hlj=>by
     cases hme:isME o'.op with
     | true=>rfl
     | false=>
      have hj:j<ops.size:=(Xz.1 hoj).1;have hX:j∈X:=(hkX j hj (by simp [A1h,hoj,hlj])).2 hjk;exact absurd (A0S hok ho hoj hij (A4N hlj hreg (by simp [A5w,hme])) hD (fun e he hb=>hD j _ hX hoj e he hb)) hi
    have hmax:T.Hs k=T.Hs (max k i):=by
     rcases Nat.le_total i k with h | h
     ·rw [Nat.max_eq_left h]
     ·rw [Nat.max_eq_right h];refine T.agree hk (by omega) (fun j hj hlj=>⟨fun h'=>by omega,fun h'=>hahead j h' hlj⟩)
    have hbehind': ∀j o',i<j->j<max k i->ops[j]? =some o'->isLoud .no o'.op=true->isME o'.op=true:=fun j o' h7 h8=>hbehind j o' h7 (by omega);have hst:=hstep (max k i) (by omega) hbehind' (by omega);rw [<-hmax] at hst;refine hst ι σ a w (fun x hx=>by rw [<-evEq x hx]; exact A0J h1 x) h2 h3 _ _ ?_;intro v w' ι' σ' r1 r2 r3 r4;obtain ⟨k',hk',hkX',hHk⟩:=stay (.inl hnl);have h1':=A0K (h1.mono r3) (d:=o.dst) r1;rw [after] at h1';have eH:=hHk hnl;rw [<-eH] at h1' r2 r3;exact ih (i::X) hs hD' hcov' hlt' ι' σ' _ w' k' hk' hkX' h1' r2 (h3.ext r4) ((eH▸h4).trans (by rw [eH] at r3 ⊢; exact r3)) (h5.trans r4) (by rw [Act.put_defers]; exact h6)
end
variable {zm:MV}
section
def A11 (s:KShape) (zm:MV) (H H2:List Blk):Prop:= ∀(id:Nat) es,H[id]? =some (.map es)-> ∃ks,H2[id]? =some (.map (es++ks))∧ ∀e,e∈ks->s.ok e.1=true∧e.2=zm
def A11.refl (H:List Blk):A11 s zm H H:=fun _ es h=>⟨[],by rw [WX]; exact h,fun e he=>by cases he⟩
def A11.trans {A B C:List Blk} (h:A11 s zm A B) (h':A11 s zm B C):A11 s zm A C:=by
 intro id es hb;obtain ⟨ks,h1,h2⟩:=h id es hb;obtain ⟨ks',h3,h4⟩:=h' id _ h1;refine ⟨ks++ks',by rw [h3,Zv],fun x hx=> ?_⟩;rcases XZ.1 hx with hx | hx
 ·exact h2 x hx
 ·exact h4 x hx
def B6S {id:Nat} {k:MKey} (hid:H[id]? =some (.map es)) (hk:s.ok k=true):A11 s zm H (H.set id (.map (C1S es k zm))):=by
 have hl:id<H.length:=(Qx.1 hid).1;intro id' es' hb;by_cases e:id=id'
 ·subst e;rw [hid] at hb; cases hb;rw [QX hl];unfold C1S;split
  ·exact ⟨[],by rw [WX],fun e he=>by cases he⟩
  ·exact ⟨[(k,zm)],rfl,fun x hx=>by simp at hx; subst hx; exact ⟨hk,rfl⟩⟩
 ·exact ⟨[],by rw [Qy e,WX]; exact hb,fun e he=>by cases he⟩
def A7n {i tip k:Nat} {b:Blk} (hi:H[i]? =some (.chain tip k)):A11 s zm H (H.set i b):=fun id es hb=>by
 have hne:i≠id:=by rintro rfl; rw [hi] at hb; cases hb
 exact ⟨[],by rw [Qy hne,WX]; exact hb,fun e he=>by cases he⟩
def B0m {H X:List Blk}:A11 s zm H (H++X):=fun id es hb=>⟨[],by rw [Qw (Qx.1 hb).1,WX]; exact hb,fun e he=>by cases he⟩
def B28 {ρ:Operand->AVal} {x y:Operand} {t tx:TypeId} {K:AVal->List Blk->Prop} (h:A5Q P ρ H x y t tx K):A5Q P ρ H x y t tx (fun rv H'=>K rv H'∧A11 s zm H H'):=by
 unfold A5Q at h ⊢;split at h
 ·split at h
  ·split at h
   ·obtain ⟨h0,h1,h2,h⟩:=h;refine ⟨h0,h1,h2,?_⟩;split at h
    ·exact ⟨h.1,h.2.1,h.2.2,B0m⟩
    ·exact ⟨h.1,h.2.1,h.2.2.1,h.2.2.2.1,h.2.2.2.2,B0m⟩
    ·obtain ⟨q1,q2,q3,q4⟩:=h;refine ⟨q1,q2,q3,?_⟩;split at q4
     ·rename_i hi;exact ⟨q4.1,q4.2.1,q4.2.2,A7n hi⟩
     ·exact q4
    ·obtain ⟨q1,q2,q3,q4⟩:=h;refine ⟨q1,q2,q3,?_⟩;split at q4
     ·rename_i hi;exact ⟨q4.1,q4.2.1,q4.2.2,A7n hi⟩
     ·exact q4
    ·exact h
   ·exact h
  ·exact h
 ·exact h
def B1z {ρ:Operand->AVal} {x y:Operand} {t tx:TypeId} {K:AVal->List Blk->Prop} (h:A4j P ρ H x y t tx rs i K):A4j P ρ H x y t tx rs i (fun rv H'=>K rv H'∧A11 s zm H H'):=by
 unfold A4j at h ⊢;split at h
 ·split at h
  ·split at h
   ·obtain ⟨h0,h1,h2,h3,h4,h5,h6,h⟩:=h;refine ⟨h0,h1,h2,h3,h4,h5,h6,?_⟩;split at h
    ·rename_i hi;exact ⟨h.1,h.2.1,h.2.2,A7n hi⟩
    ·exact h
   ·exact h
  ·exact h
 ·exact h
def B89 {es ks:List (MKey×MV)} {k:MKey} (h: ∀e,e∈ks->e.2=zm):A7g (es++ks) k zm=A7g es k zm:=by
 unfold A7g mIdx;rw [List.findIdx?_append];cases h1:es.findIdx? (fun e=>e.1==k) with
 | some i=>
  have hi:i<es.length:=(Qj0.1 h1).1;simp [Qw hi]
 | none=>
  cases h2:ks.findIdx? (fun e=>e.1==k) with
  | none=>simp
  | some j=>
   have hj:j<ks.length:=(Qj0.1 h2).1;simp only [Option.map_some,Option.none_or,Option.bind_some,Option.bind_none,Option.getD_none];rw [QW (by omega),Nat.add_sub_cancel];rw [Qq hj];simpa using h ks[j] (Xw hj)
variable {P:Program} {rd:Option Nat}
def C2c (R:List Blk->List Blk->Prop) (P:Program) (rd:Option Nat) (all:Array Oper) (o:Oper) (tm:List AVal) (H:List Blk) (rv:AVal) (H':List Blk):Prop:=
 (gwant all tm o=some false∧rv= .tup []∧H'=H)∨
 (gwant all tm o=some true∧
  ((isReg .no o.op=true∧isLoud .no o.op=false∧(∀H,AStep P rd o (aeval tm) H rv H)∧H'=H)∨
   (isSoft o.op=false∧isReg .no o.op=false∧AStep P rd o (aeval tm) H rv H'∧(isLoud .no o.op=false->H'=H)∧(isME o.op=true->R H H'))∨
   (isSoft o.op=true∧H'=H∧ ∀H2,R H H2->AStep P rd o (aeval tm) H2 rv H2)))
def C3P (t0:TypeId) (s:KShape) (zm:MV) (P:Program) (ρ:Operand->AVal) (H:List Blk) (op:Op) (K:AVal->List Blk->Prop):Prop:=
 match op with
 | .lookup t x y false=>
  match ρ x,A2N (ρ y) with
  | .c (.map id),some k=>
   match H[id]? with
   | some (.map es)=>t=t0∧s.ok k=true∧(∀e,e∈es->s.ok e.1=true)∧K (A5B (A7g es k zm)) H
   | _=>False
  | _,_=>False
 | .mapEntry t x y=>
  match ρ x,A2N (ρ y) with
  | .c (.map id),some k=>
   match H[id]? with
   | some (.map es)=>t=t0∧s.ok k=true∧(∀e,e∈es->s.ok e.1=true)∧K (.tup [A5B (A7g es k zm),.c (.int .i64 (A8D es k))]) (H.set id (.map (C1S es k zm)))
   | _=>False
  | _,_=>False
 | op=>isSoft op=false∧C6q op=false∧B6R .no P ρ H op K
def B6T {t0:TypeId} {s:KShape} {zm:MV} {kt et:TypeId} {z:Value} (ht:B2k P t0=some (kt,et)) (L:KeyLaw P kt s) (hz:A01 P et=some z) (hzm:B20 (A0N z)=some zm)
  {all:Array Oper} {o:Oper} {tm:List AVal} {H:List Blk} {K:AVal->List Blk->Prop} (hg:gwant all tm o=some true) (h:C3P t0 s zm P (aeval tm) H o.op K): ∃rv H',C2c (A11 s zm) P rd all o tm H rv H'∧K rv H':=by
 unfold C3P at h;split at h
 ·rename_i t x y ho;split at h
  ·rename_i id k hx hy;split at h
   ·rename_i es hid;obtain ⟨rfl,hk,hes,h⟩:=h;refine ⟨_,H,.inr ⟨hg,.inr (.inr ⟨by rw [ho]; rfl,rfl,fun H2 hR=> ?_⟩)⟩,h⟩;obtain ⟨ks,h2,h3⟩:=hR id _ hid
    have:=A8G (rd:=rd) t x y false ho kt et ht s L id hx (es++ks) h2 k hy hk (fun e he=>by
     rcases XZ.1 he with he | he
     ·exact hes e he
     ·exact (h3 e he).1) z hz zm hzm
    rw [B89 (fun e he=>(h3 e he).2)] at this;simpa using this
   ·exact h.elim
  ·exact h.elim
 ·rename_i t x y ho;split at h
  ·rename_i id k hx hy;split at h
   ·rename_i es hid;obtain ⟨rfl,hk,hes,h⟩:=h;refine ⟨_,_,.inr ⟨hg,.inr (.inl ⟨by rw [ho]; rfl,by rw [ho]; rfl,A6l t x y ho kt et ht s L id hx es hid k hy hk hes z hz zm hzm,(fun hl=>by rw [ho] at hl; cases hl),fun _=>B6S hid hk⟩)⟩,h⟩
   ·exact h.elim
  ·exact h.elim
 ·obtain ⟨hs,hm,h⟩:=h;cases hme:isME o.op with
  | false=>
   obtain ⟨rv,H',h1,h2⟩:=A7k (rd:=rd) hg h;refine ⟨rv,H',?_,h2⟩;rcases h1 with h1 | ⟨h1,h3 | ⟨h3,h4,h5⟩⟩
   ·exact .inl h1
   ·exact .inr ⟨h1,.inl h3⟩
   ·exact .inr ⟨h1,.inr (.inl ⟨hs,h3,h4,h5,fun hx=>by rw [hme] at hx; cases hx⟩)⟩
  | true=>
   have h':B6R .no P (aeval tm) H o.op (fun rv H'=>K rv H'∧A11 s zm H H'):=by
    unfold isME at hme;split at hme
    ·rename_i ho; rw [ho] at hm; cases hm
    ·rename_i ho;rw [ho] at h ⊢;simp only [B6R,aop,A7Z] at h ⊢;split at h
     ·split at h
      ·exact B1z h
      ·exact B28 h
     ·exact h
    ·cases hme
   obtain ⟨rv,H',h1,h2,h6⟩:=A7k (rd:=rd) hg h';refine ⟨rv,H',?_,h2⟩;rcases h1 with h1 | ⟨h1,h3 | ⟨h3,h4,h5⟩⟩
   ·exact .inl h1
   ·exact .inr ⟨h1,.inl h3⟩
   ·exact .inr ⟨h1,.inr (.inl ⟨hs,h3,h4,h5,fun _=>h6⟩)⟩
section rule
variable {t0:TypeId} {s:KShape} {zm:MV} {kt et:TypeId} {z:Value}
def A1E (t0:TypeId) (s:KShape) (zm:MV) (P:Program) (all:Array Oper):List Oper->List AVal->List Blk->(List AVal->List Blk->Prop)->Prop
 | [],tm,H,K=>K tm H
 | o::rest,tm,H,K=>
  match o.guard with
  | none=>C3P t0 s zm P (aeval tm) H o.op (fun rv H'=>A1E t0 s zm P all rest (A1a tm o.dst rv) H' K)
  | some (j,b)=>
   match B3T all tm j with
   | .yes b'=>(b'=b->C3P t0 s zm P (aeval tm) H o.op (fun rv H'=>A1E t0 s zm P all rest (A1a tm o.dst rv) H' K))∧(b'=(!b)->A1E t0 s zm P all rest (A1a tm o.dst (.tup [])) H K)
   | .no=>A1E t0 s zm P all rest (A1a tm o.dst (.tup [])) H K
   | .unknown=>False
inductive RunM (R:List Blk->List Blk->Prop) (P:Program) (rd:Option Nat) (all:Array Oper):List Oper->List AVal->List Blk->List (AVal×List Blk)->List AVal->List Blk->Prop
 | nil (tm:List AVal) (H:List Blk):RunM R P rd all [] tm H [] tm H
 | cons {o:Oper} {rest:List Oper} {tm tm':List AVal} {H H' H'':List Blk} {rv:AVal} {l:List (AVal×List Blk)} (hs:C2c R P rd all o tm H rv H') (hr:RunM R P rd all rest (A1a tm o.dst rv) H' l tm' H''):
   RunM R P rd all (o::rest) tm H ((rv,H')::l) tm' H''
def A7K (ht:B2k P t0=some (kt,et)) (L:KeyLaw P kt s) (hz:A01 P et=some z) (hzm:B20 (A0N z)=some zm) {all:Array Oper} {K:List AVal->List Blk->Prop}: ∀{rest:List Oper} {tm:List AVal} {H:List Blk},A1E t0 s zm P all rest tm H K-> ∃l tm' H',RunM (A11 s zm) P rd all rest tm H l tm' H'∧K tm' H':=by
 intro rest
 induction rest with
 | nil=>intro tm H h; exact ⟨[],tm,H,.nil tm H,h⟩
 | cons o rest ih=>
  intro tm H h;have run:gwant all tm o=some true->C3P t0 s zm P (aeval tm) H o.op (fun rv H'=>A1E t0 s zm P all rest (A1a tm o.dst rv) H' K)-> ∃l tm' H',RunM (A11 s zm) P rd all (o::rest) tm H l tm' H'∧K tm' H':=by
   intro hg h;obtain ⟨rv,H1,h1,h2⟩:=B6T (rd:=rd) ht L hz hzm hg h;obtain ⟨l,tm',H',h3,h4⟩:=ih h2;exact ⟨_,tm',H',.cons h1 h3,h4⟩
  have pass:gwant all tm o=some false->A1E t0 s zm P all rest (A1a tm o.dst (.tup [])) H K-> ∃l tm' H',RunM (A11 s zm) P rd all (o::rest) tm H l tm' H'∧K tm' H':=by
   intro hg h;obtain ⟨l,tm',H',h3,h4⟩:=ih h;exact ⟨_,tm',H',.cons (.inl ⟨hg,rfl,rfl⟩) h3,h4⟩
  simp only [A1E] at h;split at h
  ·rename_i hgd; exact run (by simp [gwant,hgd]) h
  ·rename_i j b hgd;split at h
   ·rename_i b' hv;by_cases e:b'=b
    ·exact run (by simp [gwant,hgd,hv,e]) (h.1 e)
    ·exact pass (by simp [gwant,hgd,hv,e]) (h.2 (by cases b<;>cases b'<;>simp_all))
   ·rename_i hv; exact pass (by simp [gwant,hgd,hv]) h
   ·exact h.elim
def RunM.all {R:List Blk->List Blk->Prop} {all:Array Oper} {rv:Nat->AVal} {Hs:Nat->List Blk} {tm0:List AVal}: ∀{rest:List Oper} {tm tm':List AVal} {H H'':List Blk} {l:List (AVal×List Blk)},RunM R P rd all rest tm H l tm' H''->
  ∀i,(∀j,rest[j]? =all[i+j]?)->(∀j x,l[j]? =some x->rv (i+j)=x.1∧Hs (i+j+1)=x.2)->tm=replay (A0P all) rv (fun _=>true) i tm0->H=Hs i->
   (∀j o,rest[j]? =some o->C2c R P rd all o (replay (A0P all) rv (fun _=>true) (i+j) tm0) (Hs (i+j)) (rv (i+j)) (Hs (i+j+1)))∧
   tm'=replay (A0P all) rv (fun _=>true) (i+rest.length) tm0∧H''=Hs (i+rest.length):=by
 intro rest tm tm' H H'' l hr
 induction hr with
 | nil tm H=>intro i _ _ e1 e2; exact ⟨by simp,by simpa using e1,by simpa using e2⟩
 | cons hs _ ih=>
  rename_i o rest tm tm' H H' H'' rv' l _;intro i h1 h2 e1 e2;obtain ⟨q1,q2⟩:=h2 0 _ rfl;have ho:all[i]? =some o:=by have:=h1 0; simpa using this.symm
  have e3:A1a tm o.dst rv'=replay (A0P all) rv (fun _=>true) (i+1) tm0:=by
   simp only [replay,if_true,A0P,ho,Option.bind_some];rw [<-e1]; rw [show rv i=rv' from q1]
  obtain ⟨r1,r2,r3⟩:=ih (i+1) (fun j=>by have:=h1 (j+1); simpa [Wx,Qq5 1 j] using this) (fun j x hj=>by
   have:=h2 (j+1) x hj; rwa [show i+(j+1)=i+1+j by omega] at this) e3 (by simpa using q2.symm)
  refine ⟨fun j o' hj=> ?_,by rw [r2]; simp [Wx,Qq5 1],by rw [r3]; simp [Wx,Qq5 1]⟩;cases j with
  | zero=>
   simp at hj; subst hj;simp only [Nat.add_zero];rw [<-e1,<-e2,show rv i=rv' from q1,show Hs (i+1)=H' from q2];exact hs
  | succ j=>
   have:=r1 j o' hj;rwa [show i+1+j=i+(j+1) by omega] at this
def A8k (ops:Array Oper):Bool:=B1y ops&&A2i .any ops (A42 .any ops)&&A2i .text ops (A42 .text ops)&&A2i .gc ops (A42 .gc ops)
def AWp.drawM {h:Nat} {Q:Exit->St->Prop} {id:Nat} {ops:Array Oper} {tm:List AVal} {H:List Blk} (hd:A8k ops=true) {l:List (AVal×List Blk)} {tm':List AVal} {H':List Blk}
  (hr:RunM (A11 s zm) P rd ops ops.toList tm H l tm' H') (hq:Q .normal ⟨tm',H'⟩):AWp P rd h (.region id ops true) Q ⟨tm,H⟩:=by
 refine ⟨fun N ι σ a w h1 h2 h3 h4=> ?_⟩;simp only [A8k,XV] at hd;obtain ⟨⟨⟨hok,g1⟩,g2⟩,g3⟩:=hd;let rv:Nat->AVal:=fun i=>((l[i]?).map (·.1)).getD (.c .any);let Hs:Nat->List Blk:=fun i=>match i with | 0=>H | i+1=>((l[i]?).map (·.2)).getD H
 obtain ⟨s1,s2,s3⟩:=hr.all (rv:=rv) (Hs:=Hs) (tm0:=tm) 0 (fun j=>by simp) (fun j x hj=>by simp [rv,Hs,hj]) rfl rfl;have hst: ∀i o,ops[i]? =some o->C2c (A11 s zm) P rd ops o (replay (A0P ops) rv (fun _=>true) i tm) (Hs i) (rv i) (Hs (i+1)):=fun i o ho=>by
  have:=s1 i o (by simpa using ho);simpa only [XX] using this
 let T :TraceM P rd ops tm H:=⟨fun _=>true,rv,Hs,rfl,fun i o ho=>by
  rcases hst i o ho with q | ⟨q,q1 | ⟨q1,q2,q3,q4,_⟩ | ⟨q1,q2,q3⟩⟩
  ·exact .inl q
  ·exact .inr ⟨q,.inl q1⟩
  ·exact .inr ⟨q,.inr (.inl ⟨q1,q2,q3,q4⟩)⟩
  ·refine .inr ⟨q,.inr (.inr ⟨q1,q2,fun k hik hME hk=>q3 _ ?_⟩)⟩;have sim: ∀d,i+d≤k->A11 s zm (Hs i) (Hs (i+d)):=by
    intro d
    induction d with
    | zero=>intro _; exact A11.refl _
    | succ d ih=>
     intro hd;refine (ih (by omega)).trans ?_;have hlt:i+d<ops.size:=by omega
     have hoj:ops[i+d]? =some ops[i+d]:=QZ hlt;show A11 s zm (Hs (i+d)) (Hs (i+d+1));rcases hst (i+d) _ hoj with p | ⟨_,p1 | ⟨_,_,_,p4,p5⟩ | ⟨_,p2,_⟩⟩
     ·rw [p.2.2]; exact A11.refl _
     ·rw [p1.2.2.2]; exact A11.refl _
     ·cases hl:isLoud .no ops[i+d].op with
      | false=>rw [p4 hl]; exact A11.refl _
      | true=>
       by_cases hd0:d=0
       ·subst hd0;have:ops[i+0]=o:=by have:=ho; simp only [Nat.add_zero] at hoj ⊢; rw [hoj] at this; cases this; rfl
        rw [this] at hl;rw [A7m q1] at hl; cases hl
       ·exact p5 (hME (i+d) _ (by omega) (by omega) hoj hl)
     ·rw [p2]; exact A11.refl _
   have:=sim (k-i) (by omega)
   rwa [show i+(k-i)=k by omega] at this⟩
 have hn:ops.toList.length=ops.size:=by simp
 rw [hn] at s2 s3;simp only [XX] at s2 s3;refine wpIn_region_draw fun t=> ?_;obtain ⟨c1,c2⟩:=A8j g1 g2 g3 (P.follows .mixedOrders) t;have hw:Mono ι σ w H ι σ { w with drawn:=w.drawn+1 } H:=⟨fun _ _ _ h h'=>⟨h,h'⟩,fun _ _ h=>h,fun _ tip k h=>⟨tip,k,h,MarkUp.refl _ _ _,.inr ⟨rfl,rfl,fun _ _ u h h'=>⟨h,⟨u,h'⟩,fun hf=>hf⟩⟩⟩⟩;have hE:Ext σ w σ { w with drawn:=w.drawn+1 }:=⟨rfl,rfl,rfl,Qk _,fun _ _ _ h h'=>⟨h,h'⟩,fun _ _ h=>⟨rfl,h⟩,fun _ _ _ h=>h,VV _⟩;have hH:HRel ι σ { w with drawn:=w.drawn+1 } H:=by
  have:=(SRel.cells (w':={ w with drawn:=w.drawn+1 }) h1 (fun _=>rfl) (fun _ _ h _ _=>h) (fun g=>⟨rfl,rfl,rfl,Qk _,fun _ _ _ h h'=>⟨h,h'⟩,fun _ _ _ _=>⟨rfl,fun _=>rfl⟩,VV _⟩)).heap;exact this
 have e0:replay (A0P ops) T.rv (mem []) ops.size tm=tm:=by
  have: ∀m,replay (A0P ops) T.rv (mem []) m tm=tm:=by
   intro m
   induction m with
   | zero=>rfl
   | succ m ih=>simp only [replay,mem,XJ,decide_false,Yk,if_false]; exact ih
  exact this _
 refine T.sound hok _ a.defers ι σ w ?_ (Region.schedule (P.follows .mixedOrders) ops t) [] c1 (fun j o hj=>by cases hj) (fun i hi=> .inr (c2 i hi)) (by simp) ι σ a { w with drawn:=w.drawn+1 } 0 (Xj _) (fun j hj hl=>by simp) ?_ hH (h2.ext hE) hw hE rfl
 ·intro ι' σ' a' w' q1 q2 q3 q4 q5;have e3:T.Hs ops.size=H':=s3.symm;have e2:replay (A0P ops) T.rv (fun _=>true) ops.size tm=tm':=s2.symm;rw [e3] at q1 q2 q3;rw [e2] at q1;exact ⟨ι',σ',⟨tm',H'⟩,hq,⟨q1,q2⟩,q4,q3.take h,by rw [q5]; exact h4.ext q4⟩
 ·rw [e0];exact h1.tmps.mono hw
def AWp.seq_drawM {h:Nat} {id:Nat} {ops:List Oper} {y:Code} (ht:B2k P t0=some (kt,et)) (L:KeyLaw P kt s) (hz:A01 P et=some z) (hzm:B20 (A0N z)=some zm) (hd:A8k ops.toArray=true)
  (hv: ∀K:List AVal->List Blk->Prop,(∀tm' H',AWp P rd h y Q ⟨tm',H'⟩->K tm' H')->A1E t0 s zm P ops.toArray ops tm H K):AWp P rd h (.seq (.region id ops.toArray true) y) Q ⟨tm,H⟩:=by
 obtain ⟨l,tm',H',h1,h2⟩:=A7K (rd:=rd) ht L hz hzm (hv (fun tm' H'=>AWp P rd h y Q ⟨tm',H'⟩) (fun _ _ h=>h));exact AWp.seq (AWp.drawM (s:=s) (zm:=zm) hd (by simpa using h1) h2)
def AWp.last_drawM {h:Nat} {id:Nat} {ops:List Oper} (ht:B2k P t0=some (kt,et)) (L:KeyLaw P kt s) (hz:A01 P et=some z) (hzm:B20 (A0N z)=some zm) (hd:A8k ops.toArray=true)
  (hv: ∀K:List AVal->List Blk->Prop,(∀tm' H',Q .normal ⟨tm',H'⟩->K tm' H')->A1E t0 s zm P ops.toArray ops tm H K):AWp P rd h (.region id ops.toArray true) Q ⟨tm,H⟩:=by
 obtain ⟨l,tm',H',h1,h2⟩:=A7K (rd:=rd) ht L hz hzm (hv (fun tm' H'=>Q .normal ⟨tm',H'⟩) (fun _ _ h=>h));exact AWp.drawM (s:=s) (zm:=zm) hd (by simpa using h1) h2
end rule
variable {t0:TypeId} {s:KShape} {zm:MV} {all:Array Oper}
@[congr] theorem C3Q {rest:List Oper} {tm tm':List AVal} {H H':List Blk} (h1:tm=tm') (h2:H=H'):A1E t0 s zm P all rest tm H K=A1E t0 s zm P all rest tm' H' K:=by rw [h1,h2]
def C44 {rest:List Oper} (hg:o.guard=none)
  (h: ∀K':AVal->List Blk->Prop,(∀rv H',A1E t0 s zm P all rest (A1a tm o.dst rv) H' K->K' rv H')->C3P t0 s zm P (aeval tm) H o.op K'):A1E t0 s zm P all (o::rest) tm H K:=by
 simp only [A1E,hg]; exact h _ (fun _ _ h=>h)
def C2d {rest:List Oper} {b b':Bool} (hg:o.guard=some (j,b)) (hv:B3T all tm j= .yes b')
  (h:b'=b-> ∀K':AVal->List Blk->Prop,(∀rv H',A1E t0 s zm P all rest (A1a tm o.dst rv) H' K->K' rv H')->C3P t0 s zm P (aeval tm) H o.op K') (h2:b'=(!b)->A1E t0 s zm P all rest (A1a tm o.dst (.tup [])) H K):A1E t0 s zm P all (o::rest) tm H K:=by
 simp only [A1E,hg,hv]; exact ⟨fun e=>h e _ (fun _ _ h=>h),h2⟩
def C2e {rest:List Oper} (hg:o.guard=some (j,b)) (hv:B3T all tm j= .no)
  (h2:A1E t0 s zm P all rest (A1a tm o.dst (.tup [])) H K):A1E t0 s zm P all (o::rest) tm H K:=by
 simp only [A1E,hg,hv]; exact h2
def C6r (h:K tm H):A1E t0 s zm P all [] tm H K:=h
end
def B54 {rd:Option Nat} {n m:Nat} {P:Program} {c:Code} {Q:Exit->Act->World->Prop} {a:Act} {w:World} (h:c.wpIn (Fr rd) n P Q a w):c.wpIn (Fr rd) m P Q a w:=
 fun b k cs h1 h2 _=>h b k cs h1 h2 (fun d hd=>by simp [Fr] at hd)
def A8P {rd rd':Option Nat} {n m:Nat} {P:Program} {f:FuncId} {args:Array Value} {w:World} {R:Ending->World->Prop} (h:CallsIn (Fr rd) n P f args w R):CallsIn (Fr rd') m P f args w R:=
 ⟨h.1,fun cs _=>h.2 cs (fun d hd=>by simp [Fr] at hd)⟩
def Run.sound2 {rd:Option Nat} {all:Array Oper} {pre post:List Oper} {tm tm':List AVal} {H H':List Blk} (hr:Run P rd all pre tm H tm' H'):
  ∀ι σ a w,TmpsRel ι σ w H tm a.tmps->HRel ι σ w H->RdOK rd σ w-> ∀Q:Exit->Act->World->Prop,
   (∀ι' σ' a' w',TmpsRel ι' σ' w' H' tm' a'.tmps->HRel ι' σ' w' H'->Mono ι σ w H ι' σ' w' H'->Ext σ w σ' w'->a'.defers=a.defers->wpListIn (Fr rd) 9 P all Q post a' w')->
   wpListIn (Fr rd) 9 P all Q (pre++post) a w:=by
 induction hr with
 | nil tm H=>intro ι σ a w h1 h2 h3 Q hq; exact hq ι σ a w h1 h2 (Mono.refl ..) (Ext.refl ..) rfl
 | exec hg hs _ ih=>
  intro ι σ a w h1 h2 h3 Q hq;rw [List.cons_append];unfold wpListIn;rw [if_pos (A07 h1 hg)];refine hs ι σ a w (fun x _=>A0J h1 x) h2 h3 _ _ ?_;intro v w' ι' σ' r1 r2 r3 r4;refine ih ι' σ' _ w' (A0K (h1.mono r3) r1) r2 (h3.ext r4) Q ?_;intro ι2 σ2 a2 w2 s1 s2 s3 s4 s5;exact hq ι2 σ2 a2 w2 s1 s2 (r3.trans s3) (r4.trans s4) (by rw [s5,Act.put_defers])
 | skip hg _ ih=>
  intro ι σ a w h1 h2 h3 Q hq;rw [List.cons_append];unfold wpListIn;rw [if_neg (by rw [A07 h1 hg]; simp)];refine ⟨fun _ _=>trivial,ih ι σ _ w (A0K h1 A25) h2 h3 Q ?_⟩;intro ι2 σ2 a2 w2 s1 s2 s3 s4 s5;exact hq ι2 σ2 a2 w2 s1 s2 s3 s4 (by rw [s5,Act.put_defers])
structure AReg (P:Program) (rd:Option Nat) (h:Nat) (all:Array Oper) (rest:List Oper) (Q:Exit->St->Prop) (tm:List AVal) (H:List Blk):Prop where
 out: ∀N ι0 σ0 w0 H0 ι σ a w,SRel ι σ ⟨tm,H⟩ a w->RdOK rd σ w->MarksOK N a.defers σ w->Ext σ0 w0 σ w->Mono (ι0.take h) σ0 w0 (H0.take h) ι σ w H->
  wpListIn (Fr rd) 9 P all (APost N h ι0 σ0 w0 H0 Q) rest a w
section
variable {P:Program} {rd:Option Nat} {h:Nat} {Q:Exit->St->Prop} {all:Array Oper} {rst:List Oper} {tm:List AVal} {H:List Blk}
def AWp.of_reg {id:Nat} {ops:List Oper} (hr:AReg P rd h ops.toArray ops Q tm H):AWp P rd h (.region id ops.toArray false) Q ⟨tm,H⟩:=
 ⟨fun N ι σ a w h1 h2 _ h4=>wpIn_region_list (hr.out N ι σ w H ι σ a w h1 h2 h4 (Ext.refl ..) ((Mono.refl ..).take h))⟩
def AReg.rest (hv: ∀K:List AVal->List Blk->Prop,(∀tm' H',Q .normal ⟨tm',H'⟩->K tm' H')->A1U P all rst tm H K):AReg P rd h all rst Q tm H:=by
 obtain ⟨tm',H',h1,h2⟩:=A2s (rd:=rd) (hv (fun tm' H'=>Q .normal ⟨tm',H'⟩) (fun _ _ h=>h));refine ⟨fun N ι0 σ0 w0 H0 ι σ a w r1 r2 r3 r4 r5=>h1.sound ι σ a w r1.tmps r1.heap r2 _ ?_⟩;intro ι' σ' a' w' s1 s2 s3 s4 s5;exact ⟨ι',σ',⟨tm',H'⟩,h2,⟨s1,s2⟩,r4.trans s4,r5.take2 (s3.take h),by rw [s5]; exact r3.ext s4⟩
def AReg.pre (n:Nat) (hv: ∀K:List AVal->List Blk->Prop,(∀tm' H',AReg P rd h all (rst.drop n) Q tm' H'->K tm' H')->A1U P all (rst.take n) tm H K):AReg P rd h all rst Q tm H:=by
 obtain ⟨tm',H',h1,h2⟩:=A2s (rd:=rd) (hv (fun tm' H'=>AReg P rd h all (rst.drop n) Q tm' H') (fun _ _ h=>h));refine ⟨fun N ι0 σ0 w0 H0 ι σ a w r1 r2 r3 r4 r5=> ?_⟩;rw [<-WJ n rst];refine h1.sound2 ι σ a w r1.tmps r1.heap r2 _ ?_;intro ι' σ' a' w' s1 s2 s3 s4 s5;exact h2.out N ι0 σ0 w0 H0 ι' σ' a' w' ⟨s1,s2⟩ (r2.ext s4) (by rw [s5]; exact r3.ext s4) (r4.trans s4) (r5.take2 (s3.take h))
end
def Clo (G:Sig->World->Prop):Prop:= ∀σ1 w1 σ2 w2,Calm 0 σ1 w1 σ2 w2->G σ1 w1->G σ2 w2
structure Gave (σ:Sig) (w:World) (σ':Sig) (w':World):Prop where
 os:w'.os=w.os
 tape:w'.tape=w.tape
 output:w'.output=w.output
 size:w.heap.size≤w'.heap.size
 sig: ∀b o,b<w.heap.size->σ' b o=σ b o
 stab: ∀b o u,σ b o= .stable->w.cell? ⟨b,o,none⟩=some u->w'.cell? ⟨b,o,none⟩=some u
 own: ∀b,b<w.heap.size->(∃o j,σ b o= .mine j∧j≠0)->w'.heap[b]? =w.heap[b]?
 obj: ∀b,b<w.heap.size->(∀o j,σ b o≠ .mine j)->w'.heap[b]? =w.heap[b]?
 drawn:w.drawn≤w'.drawn
def YStep (P:Program) (l:Nat) (G:Sig->World->Prop) (ts:List TVal) (G' Gx:Sig->World->Prop):Prop:= ∀σ (w:World) (vs:List Value),G σ w->vs.length=ts.length->
 (∀(j:Nat) x u,ts[j]? =some x->vs[j]? =some u->TVRel (Stab σ) w x u)->
 YieldAt (Fr none) 8 P l vs.toArray w fun e w'=> ∃σ',Gave σ w σ' w'∧((e= .returned (.bool true)∧G' σ' w')∨(e= .returned (.bool false)∧Gx σ' w'))
def okBlk:Blk->Prop
 | .box []=>False
 | .ghost _=>False
 | _=>True
section
variable {ι:List Nat} {σ σ':Sig} {w w':World} {H1:List Blk} {G G':Sig->World->Prop}
def Gave.ext (g:Gave σ w σ' w'):Ext σ w σ' w' where
 os:=g.os
 tape:=g.tape
 output:=g.output
 size:=g.size
 keep b o v h1 h2:=⟨by rw [g.sig b o (cell_lt h2)]; exact h1,g.stab b o v h1 h2⟩
 obj b hb hn:=⟨g.obj b hb hn,fun o id=>by rw [g.sig b o hb]; exact hn o id⟩
 back b o hb hs:=by rw [g.sig b o hb]; exact hs
 drawn:=g.drawn
def Gave.mono (g:Gave σ w σ' w'):Mono ι σ w (.ghost G::H1) ι σ' w' (.ghost G'::H1) where
 stab b o u h1 h2:=g.ext.keep b o u h1 h2
 iota _ _ h:=h
 chain id tip k h:=by
  cases id with
  | zero=>simp at h
  | succ id=>
   refine ⟨tip,k,by simpa using h,MarkUp.of fun b o q1 q2 _=>⟨by rw [g.sig b o q1]; exact q2,g.own b q1 ⟨o,id+1,q2,by omega⟩⟩,.inr ⟨rfl,rfl,fun b o u h1 h2=> ?_⟩⟩;have hb:=cell_lt h2;have e:=g.own b hb ⟨o,id+1,h1,by omega⟩;exact ⟨by rw [g.sig b o hb]; exact h1,⟨u,by rw [cell_of_heap e]; exact h2⟩,fun h3=>by rw [frozen_of_heap e]; exact h3⟩
def Gave.heap (g:Gave σ w σ' w') (hH:HRel ι σ w (.ghost G::H1)) (hok: ∀blk,blk∈H1->okBlk blk) (hG:G' σ' w') (hc:Clo G'):HRel ι σ' w' (.ghost G'::H1):=by
 have M:Mono ι σ w (.ghost G::H1) ι σ' w' (.ghost G'::H1):=g.mono;refine ⟨hH.1,fun id blk b h1 h2=> ?_⟩;cases id with
 | zero=>simp at h1; subst h1; exact ⟨hG,hc⟩
 | succ id=>
  simp only [List.getElem?_cons_succ] at h1;have:=hH.2 (id+1) blk b (by simpa using h1) h2;have hokb:=hok blk (Qv h1);cases blk with
  | box cs=>
   obtain ⟨⟨arr,e,fz,ha⟩,hc⟩:=this;have hb:b<w.heap.size:=(Xz.1 ha).1;cases cs with
   | nil=>exact hokb.elim
   | cons c0 cs=>
    have eh:=g.own b hb ⟨0,id+1,(hc 0 c0 rfl).1,by omega⟩;refine ⟨⟨arr,e,fz,by rw [eh]; exact ha⟩,fun j c hj=> ?_⟩;obtain ⟨q1,q2,v,q3,q4⟩:=hc j c hj;exact ⟨by rw [g.sig b j hb]; exact q1,by rw [frozen_of_heap eh]; exact q2,v,by rw [cell_of_heap eh]; exact q3,M.cell q4⟩
  | ro ts=>
   intro j t hj;obtain ⟨q1,v,q2,q3⟩:=this j t hj;obtain ⟨r1,r2⟩:=g.ext.keep b j v q1 q2;exact ⟨r1,v,r2,M.t q3⟩
  | roC ts=>
   intro j t hj;obtain ⟨q1,v,q2,q3⟩:=this j t hj;obtain ⟨r1,r2⟩:=g.ext.keep b j v q1 q2;exact ⟨r1,v,r2,M.k q3⟩
  | chain _ _=>trivial
  | dead=>trivial
  | map es=>
   obtain ⟨q1,arr,q2,q3,q4⟩:=this;have hb:b<w.heap.size:=(Xz.1 q2).1;have eh:=g.own b hb ⟨0,id+1,q1 0,by omega⟩;exact ⟨fun o=>by rw [g.sig b o hb]; exact q1 o,arr,by rw [eh]; exact q2,q3,fun j e x p1 p2=>⟨(q4 j e x p1 p2).1,(q4 j e x p1 p2).2.1,M.mv (q4 j e x p1 p2).2.2⟩⟩
  | iter i n seen=>
   obtain ⟨q1,bm,q2,q3⟩:=this;have hb:b<w.heap.size:=(Xz.1 q3).1;have eh:=g.own b hb ⟨0,id+1,q1 0,by omega⟩;exact ⟨fun o=>by rw [g.sig b o hb]; exact q1 o,bm,M.iota _ _ q2,by rw [eh]; exact q3⟩
  | ghost G2=>exact hokb.elim
end
def AReg.yield {h:Nat} {all:Array Oper} {rest0 rest:List Oper} {H1:List Blk} {G G' Gx:Sig->World->Prop} (he:rest0=o::rest)
  {x:Operand} {xs:Array Operand} {as:Array TypeId} (ho:o.op= .call { callee:= .value x,args:=xs,argTypes:=as }) (hgd:o.guard=none) {l:Nat} (hx:aeval tm x= .c (.yld l))
  {ts:List TVal} (ha:(xs.toList.map (aeval tm)).mapM (toT A0a)=some ts) (hok: ∀blk,blk∈H1->okBlk blk) (hY:YStep P l G ts G' Gx) (hc:Clo G') (hcx:Clo Gx)
  (ht:AReg P none h all rest Q (A1a tm o.dst (.c (.bool true))) (.ghost G'::H1)) (hf:AReg P none h all rest Q (A1a tm o.dst (.c (.bool false))) (.ghost Gx::H1)):
  AReg P none h all rest0 Q tm (.ghost G::H1):=by
 subst he;refine ⟨fun N ι0 σ0 w0 H0 ι σ a w r1 r2 r3 r4 r5=> ?_⟩;unfold wpListIn;have hg:gwant all tm o=some true:=by simp [gwant,hgd]
 rw [if_pos (A07 r1.tmps hg)];refine ⟨fun _ _=>trivial,?_⟩;rw [Oper.semAt_eq _ _ _ (by simp [ho])];have ev:=A0J r1.tmps x;rw [hx] at ev;have ev':a.eval x= .func (.yield l) #[] #[]:=ev;obtain ⟨m1,m2⟩:=A08 ha;have hG:G σ w:=by
  have h0: ∃b,ι[0]? =some b:=⟨ι[0]'(by rw [r1.heap.1]; simp),Qq _⟩;obtain ⟨b,hb⟩:=h0;exact (r1.heap.2 0 _ b rfl hb).1
 obtain ⟨fn,tmps,assign,body,hy,hR⟩:=hY σ w (xs.toList.map a.eval) hG (by simpa using m1.symm) (fun j t u h1 h2=>by
  have hlt:j<xs.toList.length:=by have:=(Qx.1 h2).1; simpa using this
  have hq:=Qq hlt;simp only [QQ,hq,Option.map_some,Vv] at h2;subst h2
  exact A4E (fun c t v h3 h4=>A0y h3 h4) (A0J r1.tmps _) (m2 j _ t (by simp [hq]) h1))
 have hrun:(execOp a.eval o).run P w= .ok (.round l fn tmps assign body) w:=by
  have e1:(xs.toList.map a.eval).toArray=xs.map a.eval:=by apply JW; simp
  rw [e1] at hy;simp [execOp,ho,resolve,ev',Deferred.ofValue,invoke,hy]
 rw [hrun];refine ⟨fun h=>by simp [Fr] at h,hR.mono ?_⟩;rintro e w' ⟨σ',g,hcase⟩;have key: ∀{G2:Sig->World->Prop} {bv:Bool},Clo G2->G2 σ' w'->AReg P none h all rest Q (A1a tm o.dst (.c (.bool bv))) (.ghost G2::H1)->wpListIn (Fr none) 9 P all (APost N h ι0 σ0 w0 H0 Q) rest (a.put o.dst (.bool bv)) w':=by
  intro G2 bv hc2 hG2 hA;have M:Mono ι σ w (.ghost G::H1) ι σ' w' (.ghost G2::H1):=g.mono;refine hA.out N ι0 σ0 w0 H0 ι σ' _ w' ⟨A0K (r1.tmps.mono M) rfl,g.heap r1.heap hok hG2 hc2⟩ (r2.ext g.ext) ?_ (r4.trans g.ext) (r5.take2 (M.take h));rw [Act.put_defers]; exact r3.ext g.ext
 rcases hcase with ⟨rfl,h1⟩ | ⟨rfl,h1⟩
 ·exact key hc h1 ht
 ·exact key hcx h1 hf
structure AIter (P:Program) (gf:FuncId) (caps:List Tree) (xs:List (List TVal)):Prop where
 enters: ∀args w,(callFunc gf args).run P w= .ok (.enter gf args) w
 runs: ∀(l:Nat) (J:Nat->Sig->World->Prop) (Jx:Sig->World->Prop),(∀k,Clo (J k))->Clo Jx->(∀k ts,xs[k]? =some ts->YStep P l (J k) ts (J (k+1)) Jx)->
  ∀(σ:Sig) (w:World) (vs:List Value),vs.length=caps.length->(∀(j:Nat) t u,caps[j]? =some t->vs[j]? =some u->TRel (Stab σ) w t u)->J 0 σ w->
  CallsIn (Fr none) 8 P gf (#[.func (.yield l) #[] #[]]++vs.toArray) w fun e w'=>(∃v,e= .returned v)∧ ∃σ',J xs.length σ' w'∨Jx σ' w'
def C72 (J Jx:Sig->World->Prop):Exit->St->Prop:=fun e st=>(match e with | .normal | .ret=>True | _=>False)∧ ∃H1,st.heap= .ghost J::H1∨st.heap= .ghost Jx::H1
def AIter.of_body {gf:FuncId} {fn:Func} {c:Code} {caps:List Tree} {xs:List (List TVal)} (hf:P.funcs[gf]? =some fn) (hb:fn.body=some c) (hn:B1q fn.name=true) (hres:fn.results= #[])
  (hw: ∀(l:Nat) (J:Nat->Sig->World->Prop) (Jx:Sig->World->Prop),(∀k,Clo (J k))->Clo Jx->(∀k ts,xs[k]? =some ts->YStep P l (J k) ts (J (k+1)) Jx)->
   AWp P none 0 c (C72 (J xs.length) Jx) ⟨entry fn (.c (.yld l)::caps.map fun t=> .c (A0v t)),[.ghost (J 0)]⟩):AIter P gf caps xs:=by
 refine ⟨enters_of hf hb hn,fun l J Jx hJ hJx hY σ w vs hl hv h0=> ?_⟩;refine A8P (rd:=none) (n:=9) (callsIn_of_wp_marks (F:=Fr none) (n:=9) hf hb trivial ?_);have hrel:SRel [0] σ ⟨entry fn (.c (.yld l)::caps.map fun t=> .c (A0v t)),[.ghost (J 0)]⟩ { tmps:= #[.func (.yield l) #[] #[]]++vs.toArray++Array.replicate (fn.ntmps-(#[Value.func (.yield l) #[] #[]]++vs.toArray).size) undef,defers:=[] } w:=by
  refine ⟨?_,rfl,fun id blk b h1 h2=> ?_⟩
  ·have:=A3d (ι:=[0]) (σ:=σ) (w:=w) (H:=[.ghost (J 0)]) (fn:=fn) (args:= .c (.yld l)::caps.map fun t=> .c (A0v t)) (vs:= .func (.yield l) #[] #[]::vs) (by simp [hl]) (fun j x u h1 h2=>by
    cases j with
    | zero=>simp at h1 h2; subst h1; subst h2; exact rfl
    | succ j=>
     simp only [List.getElem?_cons_succ,QQ] at h1 h2;cases hc:caps[j]? with
     | none=>simp [hc] at h1
     | some t=>simp [hc] at h1; subst h1; exact A0C (hv j t u hc h2))
   have e:(Value.func (.yield l) #[] #[]::vs).toArray= #[.func (.yield l) #[] #[]]++vs.toArray:=by apply JW; simp
   rw [e] at this;exact this
  ·cases id with
   | zero=>simp at h1; subst h1; exact ⟨h0,hJ 0⟩
   | succ id=>simp at h1
 refine wpIn_mono ((hw l J Jx hJ hJx hY).out w.heap.size [0] σ _ w hrel (fun l h=>by cases h) (Qk _) (MarksOK.nil ..)) ?_;rintro e a' w' ⟨ι',σ',st',⟨he,H1,hres'⟩,h1,h2,h3,Ds,h4,h5,h6⟩;have fin:LeavesInM (Fr none) 9 P fn a'.tmps (fun e w'=>(∃v,e= .returned v)∧ ∃σ',J xs.length σ' w'∨Jx σ' w') a'.defers .returning w':=by
  rw [h4]
  have:=A1C (P:=P) (rd:=none) (fn:=fn) (tmps:=a'.tmps) (N:=w.heap.size) (R:=fun e w'=>(∃v,e= .returned v)∧ ∃σ',J xs.length σ' w'∨Jx σ' w') Ds w' h5 (fun D hD=>let ⟨q1,q2,q3,_⟩:=h6 D hD; ⟨q1,q2,q3⟩) (by
   intro w2 hb2 hc2 hx2 hd2 hdr2
   have hcalm: ∀g,Calm g σ' w' σ' w2:=fun g=>⟨hb2.os,hb2.tape,hb2.output,hb2.size,fun b o u h h'=>⟨h,by rw [hc2]; exact h'⟩,fun b hbl _ hgb=>⟨hd2 b (fun hD=>by
    have h7:=(h6 b hD).2.2.2 0
    rcases hgb 0 with h8 | h8<;>(rw [h7] at h8; cases h8)),fun _=>rfl⟩,Qw0 hdr2.symm⟩
   obtain ⟨v,r1,_⟩:=A8B (r:= .tup []) (fn:=fn) (h1.cells hc2 (fun b ob h h' _=>hx2 b ob h h') hcalm) (by rw [hres]; rfl);refine ⟨v,r1,⟨v,rfl⟩,σ',?_⟩;have hz: ∃b,ι'[0]? =some b:=⟨ι'[0]'(by rw [h1.heap.1]; rcases hres' with e | e<;>simp [e]),Qq _⟩;obtain ⟨b0,hb0⟩:=hz;rcases hres' with e | e
   ·exact .inl (hJ _ _ _ _ _ (hcalm 0) (h1.heap.2 0 (.ghost (J xs.length)) b0 (by rw [e]; rfl) hb0).1)
   ·exact .inr (hJx _ _ _ _ (hcalm 0) (h1.heap.2 0 (.ghost Jx) b0 (by rw [e]; rfl) hb0).1))
  exact this
 cases e with
 | normal=>exact fin
 | ret=>exact fin
 | exit id=>exact he.elim
 | goto l=>exact he.elim
 | panic ch=>exact he.elim
 | outgrown=>exact he.elim
