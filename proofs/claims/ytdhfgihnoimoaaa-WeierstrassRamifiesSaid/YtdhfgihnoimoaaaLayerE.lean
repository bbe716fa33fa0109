/- Our layer over the machine: values of a running function as plain data, and the rules by which they step; part 5. -/
import Derived.Test.YtdhfgihnoimoaaaLayerB
import Derived.Test.YtdhfgihnoimoaaaLayerD
import Derived.Test.YtdhfgihnoimoaaaLayerC
import Derived.WideLaws
set_option linter.all false
namespace Go.Sp.L
open Go.Sp
open Go.RowKit
def isReg (w:Bool):Op→Bool
 | .move _ | .assign _ | .pick .. | .unOp .. | .binOp .. | .extract .. | .fieldAddr .. | .indexAddr .. | .build .. | .nilCheck _ | .convert .. =>true
 | .call { callee:= .builtin .len,.. } | .call { callee:= .builtin .max,.. } | .call { callee:= .builtin .min,.. }=>true
 | .slice .. | .buildSlice .. =>true
 | .load .. =>w
 | _=>false
def isLoud:Op→Bool
 | .alloc _ | .box .. | .store .. | .makeSlice .. | .mapUpdate .. | .entryStore .. | .mapEntry .. | .makeMap .. | .range .. | .next .. =>true
 | .call { callee:= .builtin .append,.. }=>true
 | .call { callee:= .builtin .copy,.. }=>true
 | .call { callee:= .value _,.. }=>true
 | _=>false
def B0i:Operand→List Tmp
 | .tmp t=>[t]
 | _=>[]
def B0j (all:Array Oper) (o:Oper):List Tmp:=
 match o.guard with
 | some (j,_)=>((all[j]?).bind (·.dst)).toList
 | none=>[]
def A1d (all:Array Oper) (o:Oper):List Tmp:=o.dst.toList++o.op.operands.toList.flatMap B0i++B0j all o
def clash (w:Bool) (all:Array Oper) (a b:Oper):Bool:=
 a.dst.toList.any (fun t=>(A1d all b).contains t)||b.dst.toList.any (fun t=>(A1d all a).contains t)||(isLoud a.op&& !isReg w b.op)||(isLoud b.op&& !isReg w a.op)
def A9i (o:Oper) (acc:List Nat):Nat:=o.after.toList.foldl (fun s e=>if Region.binds .any e then s|||2^e.on|||acc.getD e.on 0 else s) 0
def B1s:List Oper→List Nat→List Nat
 | [],acc=>acc
 | o::os,acc=>B1s os (acc++[A9i o acc])
def A2T (w:Bool) (ops:Array Oper):Bool:=
 let b:=B1s ops.toList []
 ops.toList.zipIdx.all fun (y,j)=>ops.toList.zipIdx.all fun (x,i)=> !(decide (i<j))|| !clash w ops x y||(b.getD j 0).testBit i
def Down (ops:Array Oper) (X:List Nat):Prop:= ∀(j:Nat) o,j∈X→ops[j]? =some o→ ∀e,e∈o.after→Region.binds .any e=true→e.on∈X
theorem A7A {o:Oper} {acc:List Nat} {i:Nat} (h:(A9i o acc).testBit i=true): ∃e,e∈o.after∧Region.binds .any e=true∧(e.on=i∨(acc.getD e.on 0).testBit i=true):=by
 unfold A9i at h
 have key: ∀(l:List Edge) (s:Nat),(l.foldl (fun s e=>if Region.binds .any e then s|||2^e.on|||acc.getD e.on 0 else s) s).testBit i=true→s.testBit i=true∨ ∃e,e∈l∧Region.binds .any e=true∧(e.on=i∨(acc.getD e.on 0).testBit i=true):=by
  intro l
  induction l with
  | nil=>intro s h; exact .inl h
  | cons e l ih=>
   intro s h
   rcases ih _ h with h1 | ⟨e',h1,h2⟩
   ·dsimp only at h1
    by_cases hb:Region.binds .any e=true
    ·rw [if_pos hb] at h1
     simp only [Nat.testBit_or,Bool.or_eq_true,Nat.testBit_two_pow,decide_eq_true_eq] at h1
     rcases h1 with (h1 | h1) | h1
     ·exact .inl h1
     ·exact .inr ⟨e,by simp,hb,.inl h1⟩
     ·exact .inr ⟨e,by simp,hb,.inr h1⟩
    ·rw [if_neg hb] at h1; exact .inl h1
   ·exact .inr ⟨e',by simp [h1],h2⟩
 rcases key _ 0 h with h1 | ⟨e,h1,h2⟩
 ·simp at h1
 ·exact ⟨e,by simpa using h1,h2⟩
def B0k (ops:Array Oper) (acc:List Nat):Prop:=
 ∀(j m:Nat),acc[j]? =some m→ ∀X,Down ops X→(∀o,ops[j]? =some o→ ∀e,e∈o.after→Region.binds .any e=true→e.on∈X)→ ∀i,m.testBit i=true→i∈X
theorem A51 (ops:Array Oper): ∀(os:List Oper) (acc:List Nat) (pre:List Oper),ops.toList=pre++os→acc.length=pre.length→B0k ops acc→B0k ops (B1s os acc):=by
 intro os
 induction os with
 | nil=>intro acc pre _ _ h; exact h
 | cons o os ih=>
  intro acc pre hops hlen hacc
  have ho:ops[pre.length]? =some o:=by
   rw [←Array.getElem?_toList,hops,List.getElem?_append_right (Nat.le_refl _)]; simp
  refine ih (acc++[A9i o acc]) (pre++[o]) (by simp [hops]) (by simp [hlen]) ?_
  intro j m hj X hX he i hi
  by_cases hlt:j<acc.length
  ·rw [List.getElem?_append_left hlt] at hj
   exact hacc j m hj X hX he i hi
  ·rw [List.getElem?_append_right (by omega)] at hj
   have e:j=acc.length:=by
    have:=(List.getElem?_eq_some_iff.1 hj).1; simp at this; omega
   subst e
   simp at hj; subst hj
   obtain ⟨e,h1,h2,h3⟩:=A7A hi
   have hin:=he o (by rw [hlen]; exact ho) e h1 h2
   rcases h3 with rfl | h3
   ·exact hin
   ·cases hg:acc[e.on]? with
    | none=>simp [List.getD,hg] at h3
    | some m=>simp [List.getD,hg] at h3; exact hacc _ _ hg X hX (fun o' ho' e' h4 h5=>hX _ o' hin ho' e' h4 h5) i h3
theorem A07 {w:Bool} {ops:Array Oper} (h:A2T w ops=true) {i j:Nat} {x y:Oper} (hx:ops[i]? =some x) (hy:ops[j]? =some y) (hij:i<j) (hc:clash w ops x y=true) {X:List Nat} (hX:Down ops X)
  (he: ∀e,e∈y.after→Region.binds .any e=true→e.on∈X):i∈X:=by
 unfold A2T at h
 simp only [List.all_eq_true] at h
 have m: ∀(k:Nat) z,ops[k]? =some z→(z,k)∈ops.toList.zipIdx:=fun k z hz=>by
  rw [List.mem_iff_getElem?]
  refine ⟨k,?_⟩
  rw [List.getElem?_zipIdx]
  simp [hz]
 have h1:=h (y,j) (m j y hy) (x,i) (m i x hx)
 simp only [hij,hc,decide_true,Bool.not_true,Bool.false_or] at h1
 have hb:B0k ops (B1s ops.toList []):=A51 ops ops.toList [] [] (by simp) rfl (by intro j m hj; simp at hj)
 cases hg:(B1s ops.toList [])[j]? with
 | none=>simp [List.getD,hg] at h1
 | some m=>
  simp [List.getD,hg] at h1
  exact hb j m hg X hX (fun o ho e h2 h3=>by rw [hy] at ho; cases ho; exact he e h2 h3) i h1
def replay (dst:Nat→Option Tmp) (rv:Nat→AVal) (X:Nat→Bool):Nat→List AVal→List AVal
 | 0,tm=>tm
 | m+1,tm=>if X m then A1u (replay dst rv X m tm) (dst m) (rv m) else replay dst rv X m tm
theorem A1r (tm:List AVal) (d:Option Tmp) (v:AVal):(A1u tm d v).length=tm.length:=by cases d<;>simp [A1u]
theorem A4o {tm:List AVal} {d:Option Tmp} {v:AVal} {t:Tmp} (h:d≠some t):(A1u tm d v)[t]? =tm[t]? :=by
 cases d with
 | none=>rfl
 | some d=>simp only [A1u]; rw [List.getElem?_set_ne (fun e=>h (by rw [e]))]
theorem A3s {tm:List AVal} {v:AVal} {t:Tmp} (h:t<tm.length):(A1u tm (some t) v)[t]? =some v:=by simp [A1u,List.getElem?_set_self h]
section
variable {dst:Nat→Option Tmp} {rv:Nat→AVal} {X Y:Nat→Bool} {tm:List AVal}
theorem A0v: ∀m,(replay dst rv X m tm).length=tm.length:=by
 intro m
 induction m with
 | zero=>rfl
 | succ m ih=>simp only [replay]; split<;>simp [A1r,ih]
theorem A1j {t:Tmp}: ∀m,(∀j,j<m→dst j=some t→X j=Y j)→(replay dst rv X m tm)[t]? =(replay dst rv Y m tm)[t]? :=by
 intro m
 induction m with
 | zero=>intro _; rfl
 | succ m ih=>
  intro h
  have ih':=ih (fun j hj=>h j (by omega))
  simp only [replay]
  by_cases hd:dst m=some t
  ·have e:=h m (by omega) hd
   rw [e]
   cases Y m
   ·simpa using ih'
   ·simp only [if_true,hd]
    by_cases hl:t<tm.length
    ·rw [A3s (by rw [A0v]; exact hl),A3s (by rw [A0v]; exact hl)]
    ·rw [List.getElem?_eq_none (by rw [A1r,A0v]; exact Nat.not_lt.1 hl),List.getElem?_eq_none (by rw [A1r,A0v]; exact Nat.not_lt.1 hl)]
  ·have e1: ∀(b:Bool) l,(if b then A1u l (dst m) (rv m) else l)[t]? =l[t]? :=by intro b l; cases b; rfl; exact A4o hd
   rw [e1,e1,ih']
theorem A3K {t:Tmp} {i:Nat} (hX:X i=true) (hd:dst i=some t) (hl:t<tm.length): ∀m,i<m→(∀j,i<j→j<m→dst j=some t→X j=false)→(replay dst rv X m tm)[t]? =some (rv i):=by
 intro m
 induction m with
 | zero=>intro h; omega
 | succ m ih=>
  intro him h
  simp only [replay]
  by_cases e:i=m
  ·subst e; rw [hX,if_pos rfl,hd]; exact A3s (by rw [A0v]; exact hl)
  ·have ih':=ih (by omega) (fun j h1 h2=>h j h1 (by omega))
   by_cases hdm:dst m=some t
   ·have:=h m (by omega) (by omega) hdm
    rw [this]; simpa using ih'
   ·cases X m
    ·simpa using ih'
    ·simp only [if_true]; rw [A4o hdm]; exact ih'
theorem A52 (i:Nat): ∀m,i≤m→replay dst rv (fun j=>decide (j<i)) m tm=replay dst rv (fun _=>true) i tm:=by
 intro m
 induction m with
 | zero => intro h; have:i=0:=by omega
           subst this; rfl
 | succ m ih=>
  intro h
  by_cases e:i=m+1
  ·subst e
   have: ∀k,k≤m+1→replay dst rv (fun j=>decide (j<m+1)) k tm=replay dst rv (fun _=>true) k tm:=by
    intro k
    induction k with
    | zero=>intro _; rfl
    | succ k ihk=>intro hk; simp only [replay,ihk (by omega),show k<m+1 by omega,decide_true]
   exact this _ (Nat.le_refl _)
  ·have h1: ¬(m<i):=by omega
   have h2:i≤m:=by omega
   have:=ih h2
   show (if decide (m<i) then _ else _)=_
   rw [if_neg (by simp; omega)]
   exact this
end
end Go.Sp.L
namespace Go.Sp.L
open Go.Sp
open Go.RowKit
structure Trace (wd:Bool) (P:Program) (rd:Option Nat) (ops:Array Oper) (tm0:List AVal) (H0:List Blk) where
 ex:Nat→Bool
 rv:Nat→AVal
 Hs:Nat→List Blk
 start:Hs 0=H0
 ok : ∀(i:Nat) o,ops[i]? =some o→let tm:=replay (fun j=>(ops[j]?).bind (·.dst)) rv (fun _=>true) i tm0
  (gwant ops tm o=some false∧rv i= .tup []∧Hs (i+1)=Hs i)∨
  (gwant ops tm o=some true∧
   ((isReg wd o.op=true∧isLoud o.op=false∧(∀H,AStep P rd o (aeval tm) H (rv i) H)∧Hs (i+1)=Hs i)∨
    (isReg wd o.op=false∧AStep P rd o (aeval tm) (Hs i) (rv i) (Hs (i+1))∧(isLoud o.op=false→Hs (i+1)=Hs i))))
theorem A1p {wd:Bool} {op:Op} (h:isLoud op=true):isReg wd op=false:=by
 unfold isLoud at h
 split at h<;>first | rfl | cases h
variable {wd:Bool} {P:Program} {rd:Option Nat} {ops:Array Oper} {tm0:List AVal} {H0:List Blk}
abbrev A0I (ops:Array Oper):Nat→Option Tmp:=fun j=>(ops[j]?).bind (·.dst)
def A0K (ops:Array Oper) (j:Nat):Bool:=((ops[j]?).map fun o=>isLoud o.op).getD false
theorem Trace.quiet (T:Trace wd P rd ops tm0 H0) {j:Nat} (hj:j<ops.size) (h:A0K ops j=false):T.Hs (j+1)=T.Hs j:=by
 have ho:ops[j]? =some ops[j]:=Array.getElem?_eq_getElem hj
 have hl:isLoud ops[j].op=false:=by simpa [A0K,ho] using h
 rcases T.ok j _ ho with ⟨_,_,h1⟩ | ⟨_,⟨_,_,_,h1⟩ | ⟨_,_,h1⟩⟩
 ·exact h1
 ·exact h1
 ·exact h1 hl
theorem Trace.same (T:Trace wd P rd ops tm0 H0): ∀(d k:Nat),k+d≤ops.size→(∀j,k≤j→j<k+d→A0K ops j=false)→T.Hs (k+d)=T.Hs k:=by
 intro d
 induction d with
 | zero=>intro k _ _; rfl
 | succ d ih=>
  intro k hk h
  have:=T.quiet (j:=k+d) (by omega) (h _ (by omega) (by omega))
  rw [show k+(d+1)=k+d+1 by omega,this]
  exact ih k (by omega) (fun j h1 h2=>h j h1 (by omega))
theorem Trace.agree (T:Trace wd P rd ops tm0 H0) {k i:Nat} (hk:k≤ops.size) (hi:i≤ops.size) (h: ∀j,j<ops.size→A0K ops j=true→(j<k↔j<i)):T.Hs k=T.Hs i:=by
 have q: ∀a b,a≤b→b≤ops.size→(∀j,j<ops.size→A0K ops j=true→(j<a↔j<b))→T.Hs b=T.Hs a:=by
  intro a b hab hb h
  have:=T.same (b-a) a (by omega) (fun j h1 h2=>by
   cases hl:A0K ops j with
   | false=>rfl
   | true=>have:=(h j (by omega) hl).2 (by omega); omega)
  rwa [show a+(b-a)=b by omega] at this
 by_cases hki:k≤i
 ·exact (q k i hki hi h).symm
 ·exact q i k (by omega) hk (fun j h1 h2=>(h j h1 h2).symm)
def mem (X:List Nat) (j:Nat):Bool:=decide (j∈X)
theorem A3L {tm tm':List AVal} {x:Operand} (h: ∀t,t∈B0i x→tm[t]? =tm'[t]?):aeval tm x=aeval tm' x:=by
 cases x with
 | tmp t=>have:=h t (by simp [B0i]); simp only [aeval,List.getD,this]
 | const v=>rfl
 | global g=>rfl
 | func f=>rfl
theorem A3M {tm tm':List AVal} {o:Oper} (h: ∀t,t∈B0j ops o→tm[t]? =tm'[t]?):gwant ops tm o=gwant ops tm' o:=by
 unfold gwant
 cases hg:o.guard with
 | none=>rfl
 | some q=>
  obtain ⟨j,b⟩:=q
  simp only
  have:A9a ops tm j=A9a ops tm' j:=by
   unfold A9a
   cases hd:(ops[j]?).bind (·.dst) with
   | none=>rfl
   | some d=>
    have:=h d (by unfold B0j; rw [hg]; simp only; rw [hd]; simp)
    simp only [this]
  rw [this]
theorem Trace.sound (T:Trace wd P rd ops tm0 H0) (hok:A2T wd ops=true) (Q:Exit→Act→World→Prop) (ds:List Deferred) (ι0:List Nat) (σ0:Sig) (w0:World)
  (hq: ∀ι σ a w,TmpsRel ι σ w (T.Hs ops.size) (replay (A0I ops) T.rv (fun _=>true) ops.size tm0) a.tmps→HRel ι σ w (T.Hs ops.size)→Mono ι0 σ0 w0 H0 ι σ w (T.Hs ops.size)→Ext σ0 w0 σ w→a.defers=ds→Q .normal a w):
  ∀ (s X:List Nat),Sched ops X s→Down ops X→(∀i,i<ops.size→i∈X∨i∈s)→(∀i,i∈X→i<ops.size)→
   ∀ι σ a w k,k≤ops.size→(∀j,j<ops.size→A0K ops j=true→(j∈X↔j<k))→TmpsRel ι σ w (T.Hs k) (replay (A0I ops) T.rv (mem X) ops.size tm0) a.tmps→HRel ι σ w (T.Hs k)→RdOK rd σ w→
    Mono ι0 σ0 w0 H0 ι σ w (T.Hs k)→Ext σ0 w0 σ w→a.defers=ds→wpOpsIn (Fr rd) 9 P ops Q s a w:=by
 intro s
 induction s with
 | nil=>
  intro X _ _ hcov _ ι σ a w k hk hkX h1 h2 h3 h4 h5 h6
  have hall: ∀i,i<ops.size→i∈X:=fun i hi=>by rcases hcov i hi with h | h; exact h; cases h
  have eH:T.Hs k=T.Hs ops.size:=T.agree hk (Nat.le_refl _) (fun j hj hl=>⟨fun _=>hj,fun _=>(hkX j hj hl).1 (hall j hj)⟩)
  have eR:replay (A0I ops) T.rv (mem X) ops.size tm0=replay (A0I ops) T.rv (fun _=>true) ops.size tm0:=by
   apply List.ext_getElem?
   intro t
   exact A1j _ (fun j hj _=>by simp [mem,hall j hj])
  rw [eH] at h1 h2 h4
  rw [eR] at h1
  exact hq ι σ a w h1 h2 h4 h5 h6
 | cons i s ih=>
  intro X hs hD hcov hlt ι σ a w k hk hkX h1 h2 h3 h4 h5 h6
  cases hs with
  | cons ho hi hd hs=>
  rename_i o
  have hin:i<ops.size:=(Array.getElem?_eq_some_iff.1 ho).1
  have names: ∀t,t∈A1d ops o→ ∀j,j<ops.size→A0I ops j=some t→j≠i→(j∈X↔j<i):=by
   intro t ht j hj hdj hne
   have hoj:ops[j]? =some ops[j]:=Array.getElem?_eq_getElem hj
   have hdj':ops[j].dst=some t:=by simpa [A0I,hoj] using hdj
   by_cases hji:j<i
   ·refine ⟨fun _=>hji,fun _=>A07 hok hoj ho hji ?_ hD hd⟩
    simp only [clash,Bool.or_eq_true]
    left; left; left
    rw [hdj']; simp only [Option.toList_some,List.any_cons,List.any_nil,Bool.or_false]
    exact List.contains_iff_mem.2 ht
   ·have hij:i<j:=by omega
    refine ⟨fun hX=> ?_,fun h=>absurd h hji⟩
    exact absurd (A07 hok ho hoj hij (by
     simp only [clash,Bool.or_eq_true]
     left; left; right
     rw [hdj']; simp only [Option.toList_some,List.any_cons,List.any_nil,Bool.or_false]
     exact List.contains_iff_mem.2 ht) hD (fun e he hb=>hD j _ hX hoj e he hb)) hi
  have tmEq: ∀t,t∈A1d ops o→(replay (A0I ops) T.rv (mem X) ops.size tm0)[t]? =(replay (A0I ops) T.rv (fun _=>true) i tm0)[t]? :=by
   intro t ht
   rw [←A52 i ops.size (by omega)]
   refine A1j _ (fun j hj hdj=> ?_)
   by_cases e:j=i
   ·subst e; simp [mem,hi]
   ·have:=names t ht j hj hdj e
    simp only [mem,this]
  have evEq: ∀x,x∈o.op.operands→aeval (replay (A0I ops) T.rv (mem X) ops.size tm0) x=aeval (replay (A0I ops) T.rv (fun _=>true) i tm0) x:=fun x hx=>
   A3L fun t ht=>tmEq t (by
    simp only [A1d,List.mem_append]
    left; right
    exact List.mem_flatMap.2 ⟨x,by simpa using hx,ht⟩)
  have gEq:gwant ops (replay (A0I ops) T.rv (mem X) ops.size tm0) o=gwant ops (replay (A0I ops) T.rv (fun _=>true) i tm0) o:=
   A3M fun t ht=>tmEq t (by simp only [A1d,List.mem_append]; right; exact ht)
  have after:A1u (replay (A0I ops) T.rv (mem X) ops.size tm0) o.dst (T.rv i)=replay (A0I ops) T.rv (mem (i::X)) ops.size tm0:=by
   apply List.ext_getElem?
   intro t
   have hdi:A0I ops i=o.dst:=by simp [A0I,ho]
   by_cases hdt:o.dst=some t
   ·have htn:t∈A1d ops o:=by simp only [A1d,List.mem_append]; left; left; rw [hdt]; simp
    by_cases hl:t<tm0.length
    ·rw [hdt,A3s (by rw [A0v]; exact hl)]
     symm
     refine A3K (by simp [mem]) (by rw [hdi]; exact hdt) hl _ hin (fun j hij hj hdj=> ?_)
     have:=names t htn j hj hdj (by omega)
     simp only [mem,List.mem_cons,decide_eq_false_iff_not,not_or]
     exact ⟨by omega,fun h=>by have:=this.1 h; omega⟩
    ·rw [List.getElem?_eq_none (by rw [A1r,A0v]; exact Nat.not_lt.1 hl),List.getElem?_eq_none (by rw [A0v]; exact Nat.not_lt.1 hl)]
   ·rw [A4o hdt]
    refine A1j _ (fun j hj hdj=> ?_)
    have hne:j≠i:=fun e=>hdt (by rw [←hdi,←e]; exact hdj)
    simp [mem,hne]
  have hD':Down ops (i::X):=by
   intro j o' hj hoj e he hb
   rcases List.mem_cons.1 hj with rfl | hj
   ·rw [ho] at hoj; cases hoj; exact List.mem_cons_of_mem _ (hd e he hb)
   ·exact List.mem_cons_of_mem _ (hD j o' hj hoj e he hb)
  have hcov': ∀j,j<ops.size→j∈i::X∨j∈s:=fun j hj=>by
   rcases hcov j hj with h | h
   ·exact .inl (List.mem_cons_of_mem _ h)
   ·rcases List.mem_cons.1 h with rfl | h
    ·exact .inl (by simp)
    ·exact .inr h
  have hlt': ∀j,j∈i::X→j<ops.size:=fun j hj=>by rcases List.mem_cons.1 hj with rfl | hj; exact hin; exact hlt j hj
  have stay:isLoud o.op=false∨T.Hs (i+1)=T.Hs i→ ∃k',k'≤ops.size∧(∀j,j<ops.size→A0K ops j=true→(j∈i::X↔j<k'))∧(isLoud o.op=false→T.Hs k'=T.Hs k):=by
   intro _
   cases hl:isLoud o.op with
   | false=>
    refine ⟨k,hk,fun j hj hlj=> ?_,fun _=>rfl⟩
    have hne:j≠i:=by rintro rfl; simp [A0K,ho,hl] at hlj
    simp only [List.mem_cons,hne,false_or]
    exact hkX j hj hlj
   | true=>
    refine ⟨i+1,by omega,fun j hj hlj=> ?_,fun h=>by cases h⟩
    have hoj:ops[j]? =some ops[j]:=Array.getElem?_eq_getElem hj
    have hlj':isLoud ops[j].op=true:=by simpa [A0K,hoj] using hlj
    have hrj:isReg wd ops[j].op=false:=A1p hlj'
    by_cases e:j=i
    ·subst e; simp
    ·simp only [List.mem_cons,e,false_or]
     by_cases hji:j<i
     ·refine ⟨fun _=>by omega,fun _=>A07 hok hoj ho hji ?_ hD hd⟩
      simp only [clash,Bool.or_eq_true,Bool.and_eq_true,Bool.not_eq_true']
      right; exact ⟨hl,hrj⟩
     ·have hij:i<j:=by omega
      refine ⟨fun hX=> ?_,fun h=>by omega⟩
      exact absurd (A07 hok ho hoj hij (by
       simp only [clash,Bool.or_eq_true,Bool.and_eq_true,Bool.not_eq_true']
       left; right; exact ⟨hl,hrj⟩) hD (fun e he hb=>hD j _ hX hoj e he hb)) hi
  have heapEq:isReg wd o.op=false→T.Hs k=T.Hs i:=by
   intro hr
   refine T.agree hk (by omega) (fun j hj hlj=> ?_)
   have hoj:ops[j]? =some ops[j]:=Array.getElem?_eq_getElem hj
   have hlj':isLoud ops[j].op=true:=by simpa [A0K,hoj] using hlj
   by_cases e:j=i
   ·subst e; rw [←hkX j hj hlj]; exact ⟨fun h=>absurd h hi,fun h=>by omega⟩
   ·rw [←hkX j hj hlj]
    by_cases hji:j<i
    ·refine ⟨fun _=>hji,fun _=>A07 hok hoj ho hji ?_ hD hd⟩
     simp only [clash,Bool.or_eq_true,Bool.and_eq_true,Bool.not_eq_true']
     left; right; exact ⟨hlj',hr⟩
    ·have hij:i<j:=by omega
     refine ⟨fun hX=> ?_,fun h=>by omega⟩
     exact absurd (A07 hok ho hoj hij (by
      simp only [clash,Bool.or_eq_true,Bool.and_eq_true,Bool.not_eq_true']
      right; exact ⟨hlj',hr⟩) hD (fun e he hb=>hD j _ hX hoj e he hb)) hi
  unfold wpOpsIn
  simp only [ho]
  rcases T.ok i o ho with ⟨hg,hrv,hH⟩ | ⟨hg,hcase⟩
  ·-- passed over
   rw [if_neg (by rw [A0Y h1 (gEq.trans hg)]; simp)]
   refine ⟨fun _ _=>trivial,?_⟩
   obtain ⟨k',hk',hkX',hHk⟩:=stay (.inr hH)
   have eH:T.Hs k'=T.Hs k:=by
    cases hl:isLoud o.op with
    | false=>exact hHk hl
    | true=>
     have hr:isReg wd o.op=false:=A1p hl
     rw [heapEq hr]
     have:T.Hs k'=T.Hs (i+1):=T.agree hk' (by omega) (fun j hj hlj=>by
      rw [←hkX' j hj hlj]
      have h7:=hkX j hj hlj
      by_cases e:j=i
      ·subst e; simp
      ·simp only [List.mem_cons,e,false_or]
       rw [h7]
       have h8:T.Hs k=T.Hs i:=heapEq hr
       have hoj:ops[j]? =some ops[j]:=Array.getElem?_eq_getElem hj
       have hlj':isLoud ops[j].op=true:=by simpa [A0K,hoj] using hlj
       rw [←h7]
       by_cases hji:j<i
       ·refine ⟨fun _=>by omega,fun _=>A07 hok hoj ho hji ?_ hD hd⟩
        simp only [clash,Bool.or_eq_true,Bool.and_eq_true,Bool.not_eq_true']
        left; right; exact ⟨hlj',hr⟩
       ·have hij:i<j:=by omega
        refine ⟨fun hX=> ?_,fun h=>by omega⟩
        exact absurd (A07 hok ho hoj hij (by
         simp only [clash,Bool.or_eq_true,Bool.and_eq_true,Bool.not_eq_true']
         right; exact ⟨hlj',hr⟩) hD (fun e he hb=>hD j _ hX hoj e he hb)) hi)
     rw [this,hH]
   rw [←eH] at h1 h2 h4
   have h1':=A1b h1 (d:=o.dst) (x:= .tup []) (v:=undef) A3x
   rw [←hrv,after] at h1'
   exact ih (i::X) hs hD' hcov' hlt' ι σ _ w k' hk' hkX' h1' h2 h3 h4 h5 (by rw [Act.put_defers]; exact h6)
  ·rw [if_pos (A0Y h1 (gEq.trans hg))]
   rcases hcase with ⟨hreg,hnl,hstep,hH⟩ | ⟨hreg,hstep,hH⟩
   ·refine hstep (T.Hs k) ι σ a w (fun x hx=>by rw [←evEq x hx]; exact A0Q h1 x) h2 h3 _ _ ?_
    intro v w' ι' σ' r1 r2 r3 r4
    obtain ⟨k',hk',hkX',hHk⟩:=stay (.inl hnl)
    have h1':=A1b (h1.mono r3) (d:=o.dst) r1
    rw [after] at h1'
    have eH:=hHk hnl
    rw [←eH] at h1' r2 r3
    exact ih (i::X) hs hD' hcov' hlt' ι' σ' _ w' k' hk' hkX' h1' r2 (h3.ext r4) ((eH▸h4).trans (by rw [eH] at r3 ⊢; exact r3)) (h5.trans r4) (by rw [Act.put_defers]; exact h6)
   ·have eH:=heapEq hreg
    rw [eH] at h1 h2 h4
    refine hstep ι σ a w (fun x hx=>by rw [←evEq x hx]; exact A0Q h1 x) h2 h3 _ _ ?_
    intro v w' ι' σ' r1 r2 r3 r4
    have h1':=A1b (h1.mono r3) (d:=o.dst) r1
    rw [after] at h1'
    cases hl:isLoud o.op with
    | false=>
     have e2:T.Hs (i+1)=T.Hs k:=by rw [hH hl,eH]
     rw [e2] at h1' r2 r3
     rw [←eH] at h4 r3
     obtain ⟨k',hk',hkX',hHk⟩:=stay (.inl hl)
     have e3:=hHk hl
     rw [←e3] at h1' r2 r3 h4
     exact ih (i::X) hs hD' hcov' hlt' ι' σ' _ w' k' hk' hkX' h1' r2 (h3.ext r4) (h4.trans r3) (h5.trans r4) (by rw [Act.put_defers]; exact h6)
    | true=>
     have hkX': ∀j,j<ops.size→A0K ops j=true→(j∈i::X↔j<i+1):=by
      intro j hj hlj
      have hoj:ops[j]? =some ops[j]:=Array.getElem?_eq_getElem hj
      have hlj':isLoud ops[j].op=true:=by simpa [A0K,hoj] using hlj
      by_cases e:j=i
      ·subst e; simp
      ·simp only [List.mem_cons,e,false_or]
       by_cases hji:j<i
       ·refine ⟨fun _=>by omega,fun _=>A07 hok hoj ho hji ?_ hD hd⟩
        simp only [clash,Bool.or_eq_true,Bool.and_eq_true,Bool.not_eq_true']
        left; right; exact ⟨hlj',hreg⟩
       ·have hij:i<j:=by omega
        refine ⟨fun hX=> ?_,fun h=>by omega⟩
        exact absurd (A07 hok ho hoj hij (by
         simp only [clash,Bool.or_eq_true,Bool.and_eq_true,Bool.not_eq_true']
         right; exact ⟨hlj',hreg⟩) hD (fun e he hb=>hD j _ hX hoj e he hb)) hi
     exact ih (i::X) hs hD' hcov' hlt' ι' σ' _ w' (i+1) (by omega) hkX' h1' r2 (h3.ext r4) (h4.trans r3) (h5.trans r4) (by rw [Act.put_defers]; exact h6)
end Go.Sp.L
namespace Go.Sp.L
open Go.Sp
open Go.RowKit
variable {P:Program} {rd:Option Nat} {wd:Bool}
theorem B1t {o:Oper} {ρ:Operand→AVal} {H:List Blk} {K:AVal→List Blk→Prop} (hr:isReg false o.op=true) (h:aop P ρ H o.op K): ∃rv,(∀H',AStep P rd o ρ H' rv H')∧K rv H:=by
 cases ho:o.op with
 | move x=>rw [ho] at h; exact ⟨_,fun _=>A2K x (.inl ho),h⟩
 | assign x=>rw [ho] at h; exact ⟨_,fun _=>A2K x (.inr ho),h⟩
 | pick c x y=>
  rw [ho] at h; simp only [aop] at h
  split at h
  ·rename_i b hb
   refine ⟨_,fun _=>A7o c x y ho b hb,?_⟩
   cases b
   ·exact h.2 rfl
   ·exact h.1 rfl
  ·exact h.elim
 | unOp op t x=>
  rw [ho] at h
  cases op<;>simp only [aop] at h
  case not=>
   split at h
   ·rename_i b hb; exact ⟨_,fun _=>A8T t x ho b hb,h⟩
   ·exact h.elim
  case neg=>
   split at h
   ·rename_i k n hb; exact ⟨_,fun _=>A8W t x ho k n hb h.1,h.2⟩
   ·exact h.elim
 | binOp op t x y t'=>
  rw [ho] at h; simp only [aop,B8J] at h
  split at h
  ·rename_i k a k' b hx hy
   by_cases hs:A7p op=true
   ·rw [if_pos hs] at h
    obtain ⟨c,v,hK,hrun,hv⟩:=A4g h.1 h.2
    refine ⟨.c c,fun H'=>AStep.value (by simp [ho]) fun ι σ a' w hx' hH=>⟨v,?_,hv ι σ w H'⟩,hK⟩
    have e1:a'.eval x= .int k a:=by have:=hx' x (by simp [Op.operands,ho]); rw [hx] at this; exact this
    have e2:a'.eval y= .int k' b:=by have:=hx' y (by simp [Op.operands,ho]); rw [hy] at this; exact this
    have hg:(eqGuard op t x y (.int k a) (.int k' b)).run P w= .ok () w:=by
     unfold eqGuard; cases op<;>simp
    simp only [execOp,ho,e1,e2,Sem.run_bind,hg,hrun,Result.andThen_ok,Sem.run_pure]
   rw [if_neg hs] at h
   obtain ⟨rfl,h⟩:=h
   obtain ⟨c,v,hK,hrun,hv⟩:=A6a h
   refine ⟨.c c,fun H'=>AStep.value (by simp [ho]) fun ι σ a' w hx' hH=>⟨v,?_,hv ι σ w H'⟩,hK⟩
   have e1:a'.eval x= .int k' a:=by have:=hx' x (by simp [Op.operands,ho]); rw [hx] at this; exact this
   have e2:a'.eval y= .int k' b:=by have:=hx' y (by simp [Op.operands,ho]); rw [hy] at this; exact this
   have hg:(eqGuard op t x y (.int k' a) (.int k' b)).run P w= .ok () w:=by
    unfold eqGuard; cases op<;>simp
   simp only [execOp,ho,e1,e2,Sem.run_bind,hg,hrun,Result.andThen_ok,Sem.run_pure]
  ·rename_i a b hx hy
   split at h
   ·have:=fun H'=>A1Z (P:=P) (rd:=rd) (H:=H') t t' false x y ho h.1 a b hx hy
    exact ⟨_,this,by simpa using h.2⟩
   ·have:=fun H'=>A1Z (P:=P) (rd:=rd) (H:=H') t t' true x y ho h.1 a b hx hy
    exact ⟨_,this,by simpa using h.2⟩
   ·exact h.elim
  ·rename_i xs ys hx hy
   obtain ⟨az,bs,ha,hb,he,hl,h⟩:=h
   split at h
   ·have:=fun H'=>A2t (P:=P) (rd:=rd) (H:=H') false t t' x y ho xs ys hx hy az bs ha hb he hl
    exact ⟨_,this,by simpa using h⟩
   ·have:=fun H'=>A2t (P:=P) (rd:=rd) (H:=H') true t t' x y ho xs ys hx hy az bs ha hb he hl
    exact ⟨_,this,by simpa using h⟩
   ·exact h.elim
  ·rename_i rows tok hx hy
   obtain ⟨hr,h⟩:=h
   split at h
   ·rename_i e he
    split at h
    ·exact ⟨_,fun H'=>A13 (P:=P) (rd:=rd) (H:=H') false t t' x y ho e he rows tok hx hr hy,h⟩
    ·exact ⟨_,fun H'=>A13 (P:=P) (rd:=rd) (H:=H') true t t' x y ho e he rows tok hx hr hy,h⟩
    ·exact h.elim
   ·exact h.elim
  ·exact h.elim
 | extract x i=>
  rw [ho] at h; simp only [aop] at h
  split at h
  ·rename_i xs hx
   split at h
   ·rename_i c hc; exact ⟨_,fun _=>A1Y x i ho xs _ hx hc (by simp),h⟩
   ·rename_i cs hc; exact ⟨_,fun _=>A1Y x i ho xs _ hx hc (by simp),h⟩
   ·exact h.elim
  ·exact h.elim
 | fieldAddr s x f=>
  rw [ho] at h; simp only [aop,A31] at h
  split at h
  ·rename_i off ft hf
   split at h
   ·rename_i n hn
    split at h
    ·rename_i id i hx; exact ⟨_,fun _=>A2e s x f ho off n ft hf hn id i hx,h⟩
    ·rename_i cells hx; exact ⟨_,fun _=>A1U s x f ho off n ft hf hn cells hx,h⟩
    ·exact h.elim
   ·exact h.elim
  ·exact h.elim
 | indexAddr t x y=>
  rw [ho] at h; simp only [aop,A32] at h
  split at h
  ·rename_i k i hy
   split at h
   ·rename_i n e he
    split at h
    ·rename_i s hs
     split at h
     ·rename_i id j hx; exact ⟨_,fun _=>A2f t x y ho n s e he hs id j hx k i hy h.1 h.2.1,h.2.2⟩
     ·rename_i cells hx; exact ⟨_,fun _=>A1V t x y ho n s e he hs cells hx k i hy h.1 h.2.1,h.2.2⟩
     ·exact h.elim
    ·exact h.elim
   ·rename_i e he
    split at h
    ·rename_i s hs
     split at h
     ·rename_i rows tok hx
      obtain ⟨h0,r,hr,hl,h⟩:=h
      exact ⟨_,fun _=>A1K t x y ho s e he hs rows tok hx k i hy h0 r hr hl,h⟩
     ·rename_i id k' off len cap hx
      obtain ⟨rfl,h0,h1,h⟩:=h
      exact ⟨_,fun _=>A2g t x y ho k' e he hs id off len cap hx k i hy h0 h1,h⟩
     ·rename_i rs tok hx
      obtain ⟨h0,r,hr,hl,h⟩:=h
      exact ⟨_,fun _=>A1X t x y ho s e he hs rs tok hx k i hy h0 r hr hl,h⟩
     ·rename_i id len cap hx
      obtain ⟨rfl,h0,h1,h⟩:=h
      exact ⟨_,fun _=>A2h t x y ho e he hs id len cap hx k i hy h0 h1,h⟩
     ·exact h.elim
    ·exact h.elim
   ·exact h.elim
  ·exact h.elim
 | build t ps=>
  rw [ho] at h; simp only [aop,B0g] at h
  split at h
  ·rename_i z p hb
   split at h
   ·rename_i zs parts hz hp
    obtain ⟨cs,hf,h⟩:=h
    exact ⟨_,fun _=>A6c t ps ho z p hb zs hz parts hp cs hf,h⟩
   ·exact h.elim
  ·exact h.elim
 | nilCheck x=>
  rw [ho] at h; simp only [aop] at h
  split at h
  ·rename_i f caps hx; exact ⟨_,fun _=>A24 x ho f caps hx,h⟩
  ·rename_i id j hx; exact ⟨_,fun _=>A2r x ho id j hx,h⟩
  ·rename_i cells hx; exact ⟨_,fun _=>A2k x ho cells hx,h⟩
  ·rename_i l hx; exact ⟨_,fun _=>A2s x ho l hx,h⟩
  ·exact h.elim
 | convert src dst x=>
  rw [ho] at h; simp only [aop] at h
  split at h
  ·rename_i d k hs hd
   split at h
   ·rename_i k' n hx; exact ⟨_,fun _=>A25 src dst x ho d hs k hd k' n hx h.1,h.2⟩
   ·exact h.elim
  ·exact h.elim
 | call c=>
  rw [ho] at h hr; simp only [aop] at h
  obtain ⟨callee,args,tys⟩:=c
  cases callee with
  | value fo=>cases hr
  | invoke r m=>cases hr
  | builtin b=>
   cases b<;>try (cases hr; done)
   case len=>
    simp only [A5f] at h
    split at h
    ·rename_i x ty hxs htys
     have e1:args= #[x]:=by apply Array.ext'; simpa using hxs
     have e2:tys[0]? =some ty:=by rw [←Array.getElem?_toList,htys]; rfl
     subst e1
     split at h
     ·rename_i e he
      split at h
      ·rename_i y hy
       obtain ⟨n,hn,h⟩:=h
       exact ⟨_,fun _=>A8X x ty tys ho e2 e he y hy n hn,h⟩
      ·exact h.elim
     ·rename_i n e he; exact ⟨_,fun _=>A3q x ty tys ho e2 e n he,h⟩
     ·exact h.elim
    ·exact h.elim
   case max=>
    simp only [A5f] at h
    split at h
    ·rename_i x y hxs
     have e1:args= #[x,y]:=by apply Array.ext'; simpa using hxs
     subst e1
     split at h
     ·rename_i k n k' m hx hy
      obtain ⟨rfl,h⟩:=h
      exact ⟨_,fun _=>A8Y x y tys ho k' n m hx hy,h⟩
     ·exact h.elim
    ·rename_i x y z u hxs
     have e1:args= #[x,y,z,u]:=by apply Array.ext'; simpa using hxs
     subst e1
     split at h
     ·rename_i k n k1 m k2 p k3 q hx hy hz hu
      obtain ⟨h1,h2,h3,h⟩:=h
      subst h1 h2 h3
      exact ⟨_,fun _=>A7u x y z u tys ho _ n m p q hx hy hz hu,h⟩
     ·exact h.elim
    ·exact h.elim
   case min=>
    simp only [A5f] at h
    split at h
    ·rename_i x y hxs
     have e1:args= #[x,y]:=by apply Array.ext'; simpa using hxs
     subst e1
     split at h
     ·rename_i k n k' m hx hy
      obtain ⟨rfl,h⟩:=h
      exact ⟨_,fun _=>A8Z x y tys ho k' n m hx hy,h⟩
     ·exact h.elim
    ·exact h.elim
 | slice t x lo hi mx=>rw [ho] at h; obtain ⟨rv,h1,h2⟩:=A4l (rd:=rd) (K:=fun v=>K v H) ho h; exact ⟨rv,h1,h2⟩
 | buildSlice t len ps=>
  rw [ho] at h; simp only [aop,A2S] at h
  split at h
  ·rename_i e he
   split at h
   ·rename_i size z hs hz
    split at h
    ·rename_i parts hp
     split at h
     ·rename_i cs h1
      split at h
      ·rename_i ts h2
       exact ⟨_,fun _=>A18 t len ps ho e he size hs z hz parts hp cs h1 ts h2 h.1,h.2⟩
      ·split at h
       ·rename_i x hps
        split at h
        ·rename_i id k off l c hx
         obtain ⟨rfl,h⟩:=h
         have e1:ps= #[(0,x)]:=by apply Array.ext'; simpa using hps
         subst e1
         exact ⟨_,fun _=>A1W t x ho e he hs z hz id k off l c hx,h⟩
        ·exact h.elim
       ·exact h.elim
     ·exact h.elim
    ·exact h.elim
   ·exact h.elim
  ·exact h.elim
 | _=>rw [ho] at hr; cases hr
def aloadR (P:Program) (t:Nat) (x:AVal) (K:AVal→Prop):Prop:=
 match A23 P t with
 | some false=>
  match x with
  | .c (.rptr (c::_))=>K (.c (A0x c))
  | .c (.rptrC (c::_))=>K (.c (A0d c))
  | _=>False
 | some true=>
  match A0w P t with
  | some n=>
   match x with
   | .c (.rptr cells)=> ∃l,B1o n cells=some l∧K (.agg (l.map A0x))
   | _=>False
  | none=>False
 | none=>False
theorem A4p {o:Oper} {ρ:Operand→AVal} {t:TypeId} {x:Operand} {K:AVal→Prop} (ho:o.op= .load t x) (h:aloadR P t (ρ x) K): ∃rv,(∀H',AStep P rd o ρ H' rv H')∧K rv:=by
 unfold aloadR at h
 split at h
 ·rename_i hag
  split at h
  ·rename_i c cells hx; exact ⟨_,fun _=>A3p t x ho hag c cells hx,h⟩
  ·rename_i c cells hx; exact ⟨_,fun _=>A2R t x ho hag c cells hx,h⟩
  ·exact h.elim
 ·rename_i hag
  split at h
  ·rename_i n hn
   split at h
   ·rename_i cells hx
    obtain ⟨l,hl,h⟩:=h
    unfold B1o at hl
    split at hl
    ·rename_i hlen; cases hl; exact ⟨_,fun _=>A2i t x ho hag n hn cells hx hlen,h⟩
    ·cases hl
   ·exact h.elim
  ·exact h.elim
 ·exact h.elim
def aopD (wd:Bool) (P:Program) (ρ:Operand→AVal) (H:List Blk) (op:Op) (K:AVal→List Blk→Prop):Prop:=
 match op with
 | .call { callee:= .value fo,args,.. }=>
  match ρ fo with
  | .c (.fn f caps)=> ∃H' r,ACallH P f H (args.toList.map ρ++caps.map A66) H' r∧K r H'
  | _=>False
 | .load t x=>if wd=true then aloadR P t (ρ x) (fun v=>K v H) else B1p P H t (ρ x) (fun v=>K v H)
 | op=>aop P ρ H op K
def A7B (wd:Bool) (P:Program) (rd:Option Nat) (all:Array Oper) (o:Oper) (tm:List AVal) (H:List Blk) (rv:AVal) (H':List Blk):Prop:=
 (gwant all tm o=some false∧rv= .tup []∧H'=H)∨
 (gwant all tm o=some true∧
  ((isReg wd o.op=true∧isLoud o.op=false∧(∀H,AStep P rd o (aeval tm) H rv H)∧H'=H)∨
   (isReg wd o.op=false∧AStep P rd o (aeval tm) H rv H'∧(isLoud o.op=false→H'=H))))
theorem A9j {op:Op} (h:isReg false op=true):isReg wd op=true:=by
 unfold isReg at h
 split at h<;>first | rfl | (cases h; done)
theorem A7C {op:Op} (h:isReg wd op=true):isReg false op=true∨ ∃t x,op= .load t x∧wd=true:=by
 unfold isReg at h
 split at h<;>first | exact .inl rfl | exact .inr ⟨_,_,rfl,h⟩ | (cases h; done)
theorem A33 {all:Array Oper} {o:Oper} {tm:List AVal} {H:List Blk} {K:AVal→List Blk→Prop} (hg:gwant all tm o=some true) (h:aopD wd P (aeval tm) H o.op K): ∃rv H',A7B wd P rd all o tm H rv H'∧K rv H':=by
 have reg: ∀rv,isReg wd o.op=true→(∀H',AStep P rd o (aeval tm) H' rv H')→K rv H→ ∃rv H',A7B wd P rd all o tm H rv H'∧K rv H':=fun rv hr h1 h2=>by
  refine ⟨rv,H,.inr ⟨hg,.inl ⟨hr,?_,h1,rfl⟩⟩,h2⟩
  cases hl:isLoud o.op with
  | false=>rfl
  | true=>rw [A1p hl] at hr; cases hr
 by_cases hr0:isReg false o.op=true
 ·have h':aop P (aeval tm) H o.op K:=by
   unfold aopD at h
   split at h
   ·rename_i fo args ts e; rw [e] at hr0; cases hr0
   ·rename_i t x e; rw [e] at hr0; cases hr0
   ·exact h
  obtain ⟨rv,h1,h2⟩:=B1t (rd:=rd) hr0 h'
  exact reg rv (A9j hr0) h1 h2
 by_cases hrw:isReg wd o.op=true
 ·-- a load of data
  have hl: ∃t x,o.op= .load t x∧wd=true:=(A7C hrw).resolve_left hr0
  obtain ⟨t,x,ho,rfl⟩:=hl
  rw [ho] at h
  simp only [aopD,if_true] at h
  obtain ⟨rv,h1,h2⟩:=A4p (rd:=rd) ho h
  exact reg rv (by rw [ho]; rfl) h1 h2
 ·have hr':isReg wd o.op=false:=by simpa using hrw
  unfold aopD at h
  split at h
  ·rename_i fo args ts e
   split at h
   ·rename_i f caps hf
    obtain ⟨H',r,h1,h2⟩:=h
    exact ⟨r,H',.inr ⟨hg,.inr ⟨hr',A7w fo args ts e f caps hf r h1,fun hl=>by rw [e] at hl; cases hl⟩⟩,h2⟩
   ·exact h.elim
  ·rename_i t x ho
   have hwf: ¬wd=true:=fun e=>by rw [ho] at hr'; rw [e] at hr'; cases hr'
   rw [if_neg hwf] at h
   have hq:aop P (aeval tm) H o.op (fun rv H'=>K rv H'∧H'=H):=by
    rw [ho]
    simp only [aop,B1p] at h ⊢
    split at h
    ·split at h
     ·split at h
      ·obtain ⟨c,hc,h⟩:=h; exact ⟨c,hc,h,trivial⟩
      ·exact h.elim
     ·exact ⟨h,trivial⟩
     ·exact ⟨h,trivial⟩
     ·exact h.elim
    ·split at h
     ·split at h
      ·split at h
       ·obtain ⟨c,hc,h⟩:=h; exact ⟨c,hc,h,trivial⟩
       ·exact h.elim
      ·obtain ⟨c,hc,h⟩:=h; exact ⟨c,hc,h,trivial⟩
      ·exact h.elim
     ·exact h.elim
    ·exact h.elim
   obtain ⟨rv,H',h1,h2,h3⟩:=A03 (rd:=rd) hq
   exact ⟨rv,H',.inr ⟨hg,.inr ⟨hr',h1,fun _=>h3⟩⟩,h2⟩
  ·rename_i hne hne2
   cases ho:o.op with
   | load t x=>exact absurd ho (hne2 t x)
   | buildSlice t len ps=>rw [ho] at hr0; exact absurd rfl hr0
   | store t x y=>
    obtain ⟨rv,H',h1,h2⟩:=A03 (rd:=rd) h
    exact ⟨rv,H',.inr ⟨hg,.inr ⟨hr',h1,fun hl=>by rw [ho] at hl; cases hl⟩⟩,h2⟩
   | alloc t=>
    obtain ⟨rv,H',h1,h2⟩:=A03 (rd:=rd) h
    exact ⟨rv,H',.inr ⟨hg,.inr ⟨hr',h1,fun hl=>by rw [ho] at hl; cases hl⟩⟩,h2⟩
   | box t x=>
    obtain ⟨rv,H',h1,h2⟩:=A03 (rd:=rd) h
    exact ⟨rv,H',.inr ⟨hg,.inr ⟨hr',h1,fun hl=>by rw [ho] at hl; cases hl⟩⟩,h2⟩
   | makeSlice t x y=>
    obtain ⟨rv,H',h1,h2⟩:=A03 (rd:=rd) h
    exact ⟨rv,H',.inr ⟨hg,.inr ⟨hr',h1,fun hl=>by rw [ho] at hl; cases hl⟩⟩,h2⟩
   | mapEntry t x y=>
    obtain ⟨rv,H',h1,h2⟩:=A03 (rd:=rd) h
    exact ⟨rv,H',.inr ⟨hg,.inr ⟨hr',h1,fun hl=>by rw [ho] at hl; cases hl⟩⟩,h2⟩
   | entryStore t x y z=>
    obtain ⟨rv,H',h1,h2⟩:=A03 (rd:=rd) h
    exact ⟨rv,H',.inr ⟨hg,.inr ⟨hr',h1,fun hl=>by rw [ho] at hl; cases hl⟩⟩,h2⟩
   | mapUpdate t x y z=>
    obtain ⟨rv,H',h1,h2⟩:=A03 (rd:=rd) h
    exact ⟨rv,H',.inr ⟨hg,.inr ⟨hr',h1,fun hl=>by rw [ho] at hl; cases hl⟩⟩,h2⟩
   | makeMap t r=>
    obtain ⟨rv,H',h1,h2⟩:=A03 (rd:=rd) h
    exact ⟨rv,H',.inr ⟨hg,.inr ⟨hr',h1,fun hl=>by rw [ho] at hl; cases hl⟩⟩,h2⟩
   | range t x=>
    obtain ⟨rv,H',h1,h2⟩:=A03 (rd:=rd) h
    exact ⟨rv,H',.inr ⟨hg,.inr ⟨hr',h1,fun hl=>by rw [ho] at hl; cases hl⟩⟩,h2⟩
   | lookup t x y ok=>
    have hq:aop P (aeval tm) H o.op (fun rv H'=>K rv H'∧H'=H):=by
     rw [ho] at h ⊢
     exact A77 h (fun _ _ _ _ h=>⟨h,rfl⟩)
    obtain ⟨rv,H',h1,h2,h3⟩:=A03 (rd:=rd) hq
    exact ⟨rv,H',.inr ⟨hg,.inr ⟨hr',h1,fun _=>h3⟩⟩,h2⟩
   | index t x y=>
    have hq:aop P (aeval tm) H o.op (fun rv H'=>K rv H'∧H'=H):=by
     rw [ho] at h ⊢
     simp only [aop] at h ⊢
     split at h
     ·obtain ⟨h1,h2,h3,h4,c,h5,h⟩:=h
      exact ⟨h1,h2,h3,h4,c,h5,h,trivial⟩
     ·exact h.elim
    obtain ⟨rv,H',h1,h2,h3⟩:=A03 (rd:=rd) hq
    exact ⟨rv,H',.inr ⟨hg,.inr ⟨hr',h1,fun _=>h3⟩⟩,h2⟩
   | entry x=>
    have hq:aop P (aeval tm) H o.op (fun rv H'=>K rv H'∧H'=H):=by
     rw [ho] at h ⊢
     simp only [aop] at h ⊢
     split at h
     ·split at h
      ·split at h
       ·obtain ⟨e,he,hn,h⟩:=h; exact ⟨e,he,hn,h,trivial⟩
       ·exact h.elim
      ·exact h.elim
     ·exact h.elim
    obtain ⟨rv,H',h1,h2,h3⟩:=A03 (rd:=rd) hq
    exact ⟨rv,H',.inr ⟨hg,.inr ⟨hr',h1,fun _=>h3⟩⟩,h2⟩
   | slice t x lo hi mx=>rw [ho] at hr0; exact absurd rfl hr0
   | makeFunc fn first xs=>
    rw [ho] at h
    obtain ⟨rv,h1,h2⟩:=A2Q (rd:=rd) (P:=P) (H:=H) (K:=fun v=>K v H) ho h
    exact ⟨rv,H,.inr ⟨hg,.inr ⟨hr',h1,fun _=>rfl⟩⟩,h2⟩
   | call c=>
    obtain ⟨callee,args,tys⟩:=c
    cases callee with
    | value fo=>exact (hne fo args tys ho).elim
    | invoke r m=>rw [ho] at h; exact h.elim
    | builtin b=>
     cases b
     case append=>
      obtain ⟨rv,H',h1,h2⟩:=A03 (rd:=rd) h
      exact ⟨rv,H',.inr ⟨hg,.inr ⟨hr',h1,fun hl=>by rw [ho] at hl; cases hl⟩⟩,h2⟩
     case copy=>
      obtain ⟨rv,H',h1,h2⟩:=A03 (rd:=rd) h
      exact ⟨rv,H',.inr ⟨hg,.inr ⟨hr',h1,fun hl=>by rw [ho] at hl; cases hl⟩⟩,h2⟩
     all_goals (rw [ho] at hr' h; first | exact h.elim | cases hr')
   | unOp op t x=>rw [ho] at hr'; cases hr'
   | _=>rw [ho] at h hr'; first | exact h.elim | cases hr'
def A0T (wd:Bool) (P:Program) (all:Array Oper):List Oper→List AVal→List Blk→(List AVal→List Blk→Prop)→Prop
 | [],tm,H,K=>K tm H
 | o::rest,tm,H,K=>
  match o.guard with
  | none=>aopD wd P (aeval tm) H o.op (fun rv H'=>A0T wd P all rest (A1u tm o.dst rv) H' K)
  | some (j,b)=>
   match A9a all tm j with
   | .yes b'=>(b'=b→aopD wd P (aeval tm) H o.op (fun rv H'=>A0T wd P all rest (A1u tm o.dst rv) H' K))∧(b'=(!b)→A0T wd P all rest (A1u tm o.dst (.tup [])) H K)
   | .no=>A0T wd P all rest (A1u tm o.dst (.tup [])) H K
   | .unknown=>False
inductive RunD (wd:Bool) (P:Program) (rd:Option Nat) (all:Array Oper):List Oper→List AVal→List Blk→List (AVal×List Blk)→List AVal→List Blk→Prop
 | nil (tm:List AVal) (H:List Blk):RunD wd P rd all [] tm H [] tm H
 | cons {o:Oper} {rest:List Oper} {tm tm':List AVal} {H H' H'':List Blk} {rv:AVal} {l:List (AVal×List Blk)} (hs:A7B wd P rd all o tm H rv H') (hr:RunD wd P rd all rest (A1u tm o.dst rv) H' l tm' H''):
   RunD wd P rd all (o::rest) tm H ((rv,H')::l) tm' H''
theorem A1B {all:Array Oper} {K:List AVal→List Blk→Prop}: ∀{rest:List Oper} {tm:List AVal} {H:List Blk},A0T wd P all rest tm H K→ ∃l tm' H',RunD wd P rd all rest tm H l tm' H'∧K tm' H':=by
 intro rest
 induction rest with
 | nil=>intro tm H h; exact ⟨[],tm,H,.nil tm H,h⟩
 | cons o rest ih=>
  intro tm H h
  have run:gwant all tm o=some true→aopD wd P (aeval tm) H o.op (fun rv H'=>A0T wd P all rest (A1u tm o.dst rv) H' K)→ ∃l tm' H',RunD wd P rd all (o::rest) tm H l tm' H'∧K tm' H':=by
   intro hg h
   obtain ⟨rv,H1,h1,h2⟩:=A33 (rd:=rd) hg h
   obtain ⟨l,tm',H',h3,h4⟩:=ih h2
   exact ⟨_,tm',H',.cons h1 h3,h4⟩
  have pass:gwant all tm o=some false→A0T wd P all rest (A1u tm o.dst (.tup [])) H K→ ∃l tm' H',RunD wd P rd all (o::rest) tm H l tm' H'∧K tm' H':=by
   intro hg h
   obtain ⟨l,tm',H',h3,h4⟩:=ih h
   exact ⟨_,tm',H',.cons (.inl ⟨hg,rfl,rfl⟩) h3,h4⟩
  simp only [A0T] at h
  split at h
  ·rename_i hgd; exact run (by simp [gwant,hgd]) h
  ·rename_i j b hgd
   split at h
   ·rename_i b' hv
    by_cases e:b'=b
    ·exact run (by simp [gwant,hgd,hv,e]) (h.1 e)
    ·exact pass (by simp [gwant,hgd,hv,e]) (h.2 (by cases b<;>cases b'<;>simp_all))
   ·rename_i hv; exact pass (by simp [gwant,hgd,hv]) h
   ·exact h.elim
theorem RunD.all {all:Array Oper} {rv:Nat→AVal} {Hs:Nat→List Blk} {tm0:List AVal}: ∀{rest:List Oper} {tm tm':List AVal} {H H'':List Blk} {l:List (AVal×List Blk)},RunD wd P rd all rest tm H l tm' H''→
  ∀i,(∀j,rest[j]? =all[i+j]?)→(∀j x,l[j]? =some x→rv (i+j)=x.1∧Hs (i+j+1)=x.2)→tm=replay (A0I all) rv (fun _=>true) i tm0→H=Hs i→
   (∀j o,rest[j]? =some o→A7B wd P rd all o (replay (A0I all) rv (fun _=>true) (i+j) tm0) (Hs (i+j)) (rv (i+j)) (Hs (i+j+1)))∧
   tm'=replay (A0I all) rv (fun _=>true) (i+rest.length) tm0∧H''=Hs (i+rest.length):=by
 intro rest tm tm' H H'' l hr
 induction hr with
 | nil tm H=>intro i _ _ e1 e2; exact ⟨by simp,by simpa using e1,by simpa using e2⟩
 | cons hs _ ih=>
  rename_i o rest tm tm' H H' H'' rv' l _
  intro i h1 h2 e1 e2
  obtain ⟨q1,q2⟩:=h2 0 _ rfl
  have ho:all[i]? =some o:=by have:=h1 0; simpa using this.symm
  have e3:A1u tm o.dst rv'=replay (A0I all) rv (fun _=>true) (i+1) tm0:=by
   simp only [replay,if_true,A0I,ho,Option.bind_some]
   rw [←e1]; rw [show rv i=rv' from q1]
  obtain ⟨r1,r2,r3⟩:=ih (i+1) (fun j=>by have:=h1 (j+1); simpa [Nat.add_assoc,Nat.add_comm 1 j] using this) (fun j x hj=>by
   have:=h2 (j+1) x hj; rwa [show i+(j+1)=i+1+j by omega] at this) e3 (by simpa using q2.symm)
  refine ⟨fun j o' hj=> ?_,by rw [r2]; simp [Nat.add_assoc,Nat.add_comm 1],by rw [r3]; simp [Nat.add_assoc,Nat.add_comm 1]⟩
  cases j with
  | zero=>
   simp at hj; subst hj
   simp only [Nat.add_zero]
   rw [←e1,←e2,show rv i=rv' from q1,show Hs (i+1)=H' from q2]
   exact hs
  | succ j=>
   have:=r1 j o' hj
   rwa [show i+1+j=i+(j+1) by omega] at this
def A2B (md:Region.Mode) (ops:Array Oper):List Nat:=
 let l:=Region.linearise md ops 0
 (List.range ops.size).map fun i=>l.idxOf i
def A7D (wd:Bool) (ops:Array Oper):Bool:=A2T wd ops&&A1I .any ops (A2B .any ops)&&A1I .text ops (A2B .text ops)&&A1I .gc ops (A2B .gc ops)
end Go.Sp.L
namespace Go.Sp.L
open Go.Sp
open Go.RowKit
def B3m (pos:Nat→Nat) (a b i:Nat) (o:Oper):Oper:=
 { o with after:=(o.after.toList.map (fun e=>Edge.mk (pos e.on) e.ground)++if i=b then [Edge.mk (pos a) .data] else []).toArray,guard:=none }
def A2X (pos:Nat→Nat) (a b:Nat) (ops:Array Oper):Array Oper:=
 ((List.range ops.size).map fun k=>B3m pos a b (pos k) (ops[pos k]?.getD ⟨none,.move (.tmp 0),0,"",#[],none⟩)).toArray
structure Pos (pos:Nat→Nat) (n:Nat):Prop where
 two: ∀i,pos (pos i)=i
 lt: ∀i,i<n→pos i<n
theorem Pos.id (n:Nat):Pos (fun i=>i) n:=⟨fun _=>rfl,fun _ h=>h⟩
variable {pos:Nat→Nat} {a b:Nat} {ops:Array Oper}
theorem A1F:(A2X pos a b ops).size=ops.size:=by simp [A2X]
theorem A2Y (hp:Pos pos ops.size) (i:Nat):(A2X pos a b ops)[pos i]? =(ops[i]?).map (B3m pos a b i):=by
 by_cases hi:i<ops.size
 ·have h1:=hp.lt i hi
  have e:ops[i]? =some ops[i]:=Array.getElem?_eq_getElem hi
  rw [e]
  simp [A2X,h1,hp.two i,e]
 ·have h1: ¬pos i<ops.size:=fun h=>hi (by have:=hp.lt _ h; rwa [hp.two] at this)
  rw [Array.getElem?_eq_none (xs:=A2X pos a b ops) (by rw [A1F]; omega),Array.getElem?_eq_none (xs:=ops) (by omega)]; rfl
theorem B4B (F:Fence) (n:Nat) (P:Program) (o:Oper) (pos:Nat→Nat) (a b i:Nat):(B3m pos a b i o).wpIn F n P=o.wpIn F n P:=by
 cases o; rfl
theorem A2Z (F:Fence) (n:Nat) (P:Program) (Q:Exit→Act→World→Prop) (hp:Pos pos ops.size) (hg: ∀(i:Nat) o,ops[i]? =some o→o.guard=none):
  ∀s:List Nat,wpOpsIn F n P (A2X pos a b ops) Q (s.map pos)=wpOpsIn F n P ops Q s:=by
 intro s
 induction s with
 | nil=>rfl
 | cons i s ih=>
  funext x w
  simp only [List.map_cons,wpOpsIn,A2Y hp]
  cases ho:ops[i]? with
  | none=>simp only [Option.map_none,ih]
  | some o=>
   have hgo:=hg i o ho
   have e1:Region.wanted (B3m pos a b i o) (yielded (A2X pos a b ops) x.tmps)=true:=rfl
   have e2:Region.wanted o (yielded ops x.tmps)=true:=by simp [Region.wanted,hgo]
   simp only [Option.map_some,e1,e2,if_true,ih,B4B]
def Before (a b:Nat):List Nat→List Nat→Prop
 | _,[]=>True
 | X,i::s=>(i=b→a∈X)∧Before a b (i::X) s
theorem A3a {a b:Nat}: ∀(s X:List Nat),a∈X→Before a b X s
 | [],_,_=>True.intro
 | i::s,X,h=>⟨fun _=>h,A3a s (i::X) (List.mem_cons_of_mem _ h)⟩
theorem A4t {a b:Nat} (hab:a≠b): ∀(s X:List Nat),Before a b X s∨Before b a X s
 | [],_=> .inl True.intro
 | i::s,X=>by
  by_cases h1:i=a
  ·subst h1
   exact .inl ⟨fun h=>absurd h hab,A3a s _ (by simp)⟩
  ·by_cases h2:i=b
   ·subst h2
    exact .inr ⟨fun h=>absurd h h1,A3a s _ (by simp)⟩
   ·rcases A4t hab s (i::X) with h | h
    ·exact .inl ⟨fun h'=>absurd h' h2,h⟩
    ·exact .inr ⟨fun h'=>absurd h' h1,h⟩
theorem A3b (hp:Pos pos ops.size): ∀(s X:List Nat),Sched ops X s→Before a b X s→Sched (A2X pos a b ops) (X.map pos) (s.map pos):=by
 intro s
 induction s with
 | nil=>intro X _ _; exact .nil _
 | cons i s ih=>
  intro X hs hb
  cases hs with
  | cons ho hi hd hs=>
  refine .cons (o:=B3m pos a b i _) (by rw [A2Y hp,ho]; rfl) ?_ ?_ (by have:=ih _ hs hb.2; simpa using this)
  ·intro h
   obtain ⟨j,hj,e⟩:=List.mem_map.1 h
   have:j=i:=by rw [←hp.two j,e,hp.two]
   exact hi (this▸hj)
  ·intro e he hbd
   simp only [B3m,List.mem_toArray,List.mem_append,List.mem_map] at he
   rcases he with ⟨e',he',rfl⟩ | he
   ·have:Region.binds .any e'=true:=by simpa [Region.binds] using hbd
    exact List.mem_map_of_mem (hd e' (by simpa using he') this)
   ·split at he
    ·rename_i hib
     simp only [List.mem_singleton] at he
     subst he
     exact List.mem_map_of_mem (hb.1 hib)
    ·cases he
variable {wd:Bool} {P:Program} {rd:Option Nat}
def Sim (l l':List Oper):Prop:=l.length=l'.length∧ ∀(k:Nat) o,l[k]? =some o→ ∃aft,l'[k]? =some { o with after:=aft,guard:=none }
theorem A4u {o:Oper} {aft:Array Edge} {ρ:Operand→AVal} {H H':List Blk} {rv:AVal} (h:AStep P rd o ρ H rv H'):AStep P rd { o with after:=aft,guard:=none } ρ H rv H':=by
 cases o; exact h
theorem RunD.fix {all all':Array Oper} {l:List Oper} {tm tm':List AVal} {H H':List Blk} {r:List (AVal×List Blk)} (h:RunD wd P rd all l tm H r tm' H'):
  ∀l',Sim l l'→(∀o,o∈l→o.guard=none)→RunD wd P rd all' l' tm H r tm' H':=by
 induction h with
 | nil tm H=>
  intro l' hs _
  have:l'=[]:=List.length_eq_zero_iff.1 hs.1.symm
  rw [this]; exact .nil _ _
 | cons hs hr ih=>
  rename_i o rest tm tm' H H' H'' rv l
  intro l' hsim hg
  cases l' with
  | nil=>exact absurd hsim.1 (by simp)
  | cons o' l'=>
   obtain ⟨aft,he⟩:=hsim.2 0 o rfl
   simp at he
   subst he
   have hgo:=hg o (by simp)
   have g1:gwant all tm o=some true:=by unfold gwant; rw [hgo]
   have hs':A7B wd P rd all' { o with after:=aft,guard:=none } tm H rv H':=by
    rcases hs with ⟨h1,_⟩ | ⟨_,h2⟩
    ·rw [g1] at h1; cases h1
    ·refine .inr ⟨rfl,?_⟩
     rcases h2 with ⟨a1,a2,a3,a4⟩ | ⟨a1,a2,a3⟩
     ·exact .inl ⟨a1,a2,fun H=>A4u (a3 H),a4⟩
     ·exact .inr ⟨a1,A4u a2,a3⟩
   exact .cons hs' (ih l' ⟨by simpa using hsim.1,fun k o hk=>by have:=hsim.2 (k+1) o (by simpa using hk); simpa using this⟩ (fun x hx=>hg x (List.mem_cons_of_mem _ hx)))
theorem A4v (hp:Pos pos ops.size) (l:List Oper) (hl:l.length=ops.size) (hk: ∀k:Nat,k<ops.size→l[k]? =ops[pos k]?):Sim l (A2X pos a b ops).toList:=by
 refine ⟨by rw [hl]; simp [A1F],fun k o ho=> ?_⟩
 have hlt:k<ops.size:=by have:=(List.getElem?_eq_some_iff.1 ho).1; omega
 rw [hk k hlt] at ho
 have h1:=A2Y (a:=a) (b:=b) hp (pos k)
 rw [hp.two,ho] at h1
 exact ⟨_,by rw [Array.getElem?_toList,h1]; rfl⟩
theorem A55 {tm:List AVal} {H:List Blk} (hok:A2T wd ops=true) {l:List (AVal×List Blk)} {tm':List AVal} {H':List Blk} (hr:RunD wd P rd ops ops.toList tm H l tm' H') {s:List Nat} (hs:Sched ops [] s) (hcov: ∀i,i<ops.size→i∈s)
  {Q:Exit→Act→World→Prop} {ι:List Nat} {σ:Sig} {a:Act} {w:World} (h1:TmpsRel ι σ w H tm a.tmps) (h2:HRel ι σ w H) (h3:RdOK rd σ w) {σ0:Sig} {w0:World} (hm:Mono ι σ0 w0 H ι σ w H) (he:Ext σ0 w0 σ w)
  (hq: ∀ι' σ' a' w',TmpsRel ι' σ' w' H' tm' a'.tmps→HRel ι' σ' w' H'→Mono ι σ0 w0 H ι' σ' w' H'→Ext σ0 w0 σ' w'→a'.defers=a.defers→Q .normal a' w'):wpOpsIn (Fr rd) 9 P ops Q s a w:=by
 let rv:Nat→AVal:=fun i=>((l[i]?).map (·.1)).getD (.c .any)
 let Hs:Nat→List Blk:=fun i=>match i with | 0=>H | i+1=>((l[i]?).map (·.2)).getD H
 obtain ⟨s1,s2,s3⟩:=hr.all (rv:=rv) (Hs:=Hs) (tm0:=tm) 0 (fun j=>by simp) (fun j x hj=>by simp [rv,Hs,hj]) rfl rfl
 let T:Trace wd P rd ops tm H:=⟨fun _=>true,rv,Hs,rfl,fun i o ho=>by
  have:=s1 i o (by simpa using ho)
  simp only [Nat.zero_add] at this
  exact this⟩
 have hn:ops.toList.length=ops.size:=by simp
 rw [hn] at s2 s3
 simp only [Nat.zero_add] at s2 s3
 have e0:replay (A0I ops) T.rv (mem []) ops.size tm=tm:=by
  have: ∀m,replay (A0I ops) T.rv (mem []) m tm=tm:=by
   intro m
   induction m with
   | zero=>rfl
   | succ m ih=>simp only [replay,mem,List.not_mem_nil,decide_false,Bool.false_eq_true,if_false]; exact ih
  exact this _
 refine T.sound hok Q a.defers ι σ0 w0 ?_ s [] hs (fun j o hj=>by cases hj) (fun i hi=> .inr (hcov i hi)) (by simp) ι σ a w 0 (Nat.zero_le _) (fun j hj hl=>by simp) ?_ h2 h3 hm he rfl
 ·intro ι' σ' a' w' q1 q2 q3 q4 q5
  have e3:T.Hs ops.size=H':=s3.symm
  have e2:replay (A0I ops) T.rv (fun _=>true) ops.size tm=tm':=s2.symm
  rw [e3] at q1 q2 q3
  rw [e2] at q1
  exact hq ι' σ' a' w' q1 q2 q3 q4 q5
 ·rw [e0]; exact h1
end Go.Sp.L
namespace Go.Sp.L
open Go.Sp
open Go.RowKit
def bsw (k i:Nat):Nat:=if i<k then i+k else if i<2*k then i-k else i
def bswL (k:Nat) (l:List Oper):List Oper:=(l.drop k).take k++(l.take k++l.drop (2*k))
theorem A9o (k:Nat) (l:List Oper) (i:Nat) (h:2*k≤l.length):(bswL k l)[i]? =l[bsw k i]? :=by
 have e1:((l.drop k).take k).length=k:=by simp; omega
 have e2:(l.take k).length=k:=by simp; omega
 unfold bswL L.bsw
 by_cases h1:i<k
 ·rw [if_pos h1,List.getElem?_append_left (by omega),List.getElem?_take_of_lt h1,List.getElem?_drop,Nat.add_comm]
 ·rw [if_neg h1,List.getElem?_append_right (by omega),e1]
  by_cases h2:i<2*k
  ·rw [if_pos h2,List.getElem?_append_left (by omega),List.getElem?_take_of_lt (by omega)]
  ·rw [if_neg h2,List.getElem?_append_right (by omega),e2,List.getElem?_drop]; congr 1; omega
theorem A5h (k:Nat) (l:List Oper) (h:2*k≤l.length):(bswL k l).length=l.length:=by
 unfold bswL; simp; omega
variable {P:Program} {rd:Option Nat} {wd:Bool}
end Go.Sp.L
namespace Go.Sp.L
open Go.Sp
open Go.RowKit
def csw (m k i:Nat):Nat:=if i<m then i else if i<m+k then i+k else if i<m+2*k then i-k else i
theorem Pos.csw {m k n:Nat} (h:m+2*k≤n):Pos (csw m k) n:=by
 refine ⟨fun i=> ?_,fun i hi=> ?_⟩
 ·unfold L.csw
  by_cases h0:i<m
  ·rw [if_pos h0,if_pos h0]
  ·rw [if_neg h0]
   by_cases h1:i<m+k
   ·rw [if_pos h1,if_neg (by omega),if_neg (by omega),if_pos (by omega)]; omega
   ·rw [if_neg h1]
    by_cases h2:i<m+2*k
    ·rw [if_pos h2,if_neg (by omega),if_pos (by omega)]; omega
    ·rw [if_neg h2,if_neg h0,if_neg h1,if_neg h2]
 ·unfold L.csw; split
  ·omega
  ·split
   ·omega
   ·split<;>omega
def cswL (m k:Nat) (l:List Oper):List Oper:=l.take m++bswL k (l.drop m)
theorem A56 (m k:Nat) (l:List Oper) (i:Nat) (h:m+2*k≤l.length):(cswL m k l)[i]? =l[csw m k i]? :=by
 have e1:(l.take m).length=m:=by simp; omega
 unfold cswL
 by_cases h0:i<m
 ·rw [List.getElem?_append_left (by omega),List.getElem?_take_of_lt h0]
  unfold csw; rw [if_pos h0]
 ·rw [List.getElem?_append_right (by omega),e1,A9o _ _ _ (by simp; omega),List.getElem?_drop]
  congr 1
  unfold csw bsw
  rw [if_neg h0]
  by_cases h1:i<m+k
  ·rw [if_pos h1,if_pos (by omega)]; omega
  ·rw [if_neg h1,if_neg (by omega)]
   by_cases h2:i<m+2*k
   ·rw [if_pos h2,if_pos (by omega)]; omega
   ·rw [if_neg h2,if_neg (by omega)]; omega
theorem A5i (m k:Nat) (l:List Oper) (h:m+2*k≤l.length):(cswL m k l).length=l.length:=by
 unfold cswL; rw [List.length_append,A5h _ _ (by simp; omega)]; simp; omega
variable {P:Program} {rd:Option Nat} {wd:Bool}
def A3P (wd:Bool) (m k a b:Nat) (ops:Array Oper):Bool:=
 decide (m+2*k≤ops.size)&&decide (a<b)&&ops.toList.all (fun o=>o.guard.isNone)&&A2T wd (A2X (fun i=>i) a b ops)&&A2T wd (A2X (csw m k) b a ops)&&A1I .any ops (A2B .any ops)&&A1I .text ops (A2B .text ops)&&A1I .gc ops (A2B .gc ops)
theorem AWp.draw2c {h:Nat} {Q:Exit→St→Prop} {id m k a b:Nat} {ops:List Oper} {tm:List AVal} {H:List Blk} (hd:A3P wd m k a b ops.toArray=true)
  {l1 l2:List (AVal×List Blk)} {tm1 tm2:List AVal} {H1 H2:List Blk}
  (hr1:RunD wd P rd ops.toArray ops tm H l1 tm1 H1) (hq1:Q .normal ⟨tm1,H1⟩)
  (hr2:RunD wd P rd ops.toArray (cswL m k ops) tm H l2 tm2 H2) (hq2:Q .normal ⟨tm2,H2⟩):AWp P rd h (.region id ops.toArray true) Q ⟨tm,H⟩:=by
 refine ⟨fun N ι σ a' w h1 h2 h3 h4=> ?_⟩
 simp only [A3P,Bool.and_eq_true,decide_eq_true_eq,List.all_eq_true] at hd
 obtain ⟨⟨⟨⟨⟨⟨⟨hp,hab⟩,hg⟩,k1⟩,k2⟩,g1⟩,g2⟩,g3⟩:=hd
 have hp':m+2*k≤ops.length:=by simpa using hp
 have hg1: ∀o,o∈ops→o.guard=none:=fun o ho=>by have:=hg o (by simpa using ho); simpa using this
 have hg2: ∀(i:Nat) o,ops.toArray[i]? =some o→o.guard=none:=fun i o ho=>hg1 o (List.mem_of_getElem? (by simpa using ho))
 refine wpIn_region_draw fun t=> ?_
 obtain ⟨c1,c2⟩:=A7a g1 g2 g3 (P.follows .mixedOrders) t
 generalize Region.schedule (P.follows .mixedOrders) ops.toArray t=s at*
 have hw:Mono ι σ w H ι σ { w with drawn:=w.drawn+1 } H:=⟨fun _ _ _ h h'=>⟨h,h'⟩,fun _ _ h=>h,fun _ tip k h=>⟨tip,k,h,MarkUp.refl _ _ _,.inr ⟨rfl,rfl,fun _ _ u h h'=>⟨h,⟨u,h'⟩,fun hf=>hf⟩⟩⟩⟩
 have hE:Ext σ w σ { w with drawn:=w.drawn+1 }:=⟨rfl,rfl,rfl,Nat.le_refl _,fun _ _ _ h h'=>⟨h,h'⟩,fun _ _ h=>⟨rfl,h⟩,fun _ _ _ h=>h,Nat.le_succ _⟩
 have hH:HRel ι σ { w with drawn:=w.drawn+1 } H:=by
  have:=(SRel.cells (w':={ w with drawn:=w.drawn+1 }) h1 (fun _=>rfl) (fun _ _ h _ _=>h) (fun g=>⟨rfl,rfl,rfl,Nat.le_refl _,fun _ _ _ h h'=>⟨h,h'⟩,fun _ _ _ _=>⟨rfl,fun _=>rfl⟩,Nat.le_succ _⟩)).heap
  exact this
 have hT:=h1.tmps.mono hw
 rcases A4t (a:=a) (b:=b) (by omega) s [] with hb | hb
 ·have hP:=Pos.id ops.toArray.size
  rw [←A2Z (a:=a) (b:=b) _ _ _ _ hP hg2]
  refine A55 k1 (hr1.fix _ (A4v hP ops (by simp) (fun k _=>by simp)) hg1) (by have:=A3b hP _ _ c1 hb; simpa using this) (fun i hi=>List.mem_map.2 ⟨i,c2 i (by rwa [A1F] at hi),rfl⟩) hT hH (h2.ext hE) hw hE ?_
  intro ι' σ' a' w' q1 q2 q3 q4 q5
  exact ⟨ι',σ',⟨tm1,H1⟩,hq1,⟨q1,q2⟩,q4,q3.take h,by rw [q5]; exact h4.ext q4⟩
 ·have hP:=Pos.csw (m:=m) (k:=k) (n:=ops.toArray.size) hp
  rw [←A2Z (a:=b) (b:=a) _ _ _ _ hP hg2]
  refine A55 k2 (hr2.fix _ (A4v hP _ (by rw [A5i _ _ _ hp']; simp) (fun k _=>by rw [A56 _ _ _ _ hp']; simp)) (fun o ho=> ?_)) (by have:=A3b hP _ _ c1 hb; simpa using this) (fun i hi=>List.mem_map.2 ⟨csw m k i,c2 _ (hP.lt i (by rwa [A1F] at hi)),hP.two i⟩) hT hH (h2.ext hE) hw hE ?_
  ·obtain ⟨j,hk⟩:=List.mem_iff_getElem?.1 ho
   rw [A56 _ _ _ _ hp'] at hk
   exact hg1 o (List.mem_of_getElem? hk)
  ·intro ι' σ' a' w' q1 q2 q3 q4 q5
   exact ⟨ι',σ',⟨tm2,H2⟩,hq2,⟨q1,q2⟩,q4,q3.take h,by rw [q5]; exact h4.ext q4⟩
theorem AWp.seq_draw2c {h:Nat} {Q:Exit→St→Prop} {id:Nat} {ops:List Oper} {y:Code} {tm:List AVal} {H:List Blk} (m k a b:Nat) (hd:A3P wd m k a b ops.toArray=true)
  (hv1: ∀K:List AVal→List Blk→Prop,(∀tm' H',AWp P rd h y Q ⟨tm',H'⟩→K tm' H')→A0T wd P ops.toArray ops tm H K)
  (hv2: ∀K:List AVal→List Blk→Prop,(∀tm' H',AWp P rd h y Q ⟨tm',H'⟩→K tm' H')→A0T wd P ops.toArray (cswL m k ops) tm H K):AWp P rd h (.seq (.region id ops.toArray true) y) Q ⟨tm,H⟩:=by
 obtain ⟨l,tm',H',h1,h2⟩:=A1B (rd:=rd) (hv1 (fun tm' H'=>AWp P rd h y Q ⟨tm',H'⟩) (fun _ _ h=>h))
 obtain ⟨l2,tm2,H2,h3,h4⟩:=A1B (rd:=rd) (hv2 (fun tm' H'=>AWp P rd h y Q ⟨tm',H'⟩) (fun _ _ h=>h))
 exact AWp.seq (AWp.draw2c hd h1 h2 h3 h4)
end Go.Sp.L
namespace Go.Sp.L
variable {P:Program} {rd:Option Nat} {wd:Bool} {all:Array Oper}
theorem vcStepD {o:Oper} {rest:List Oper} {tm:List AVal} {H:List Blk} {K:List AVal→List Blk→Prop} (hg:o.guard=none)
  (h: ∀K':AVal→List Blk→Prop,(∀rv H',A0T wd P all rest (A1u tm o.dst rv) H' K→K' rv H')→aopD wd P (aeval tm) H o.op K'):A0T wd P all (o::rest) tm H K:=by
 simp only [A0T,hg]; exact h _ (fun _ _ h=>h)
theorem vcEndD {tm:List AVal} {H:List Blk} {K:List AVal→List Blk→Prop} (h:K tm H):A0T wd P all [] tm H K:=h
theorem lT {P Q:Prop} (q:Q) (h:Q→P:=by intro q; with_reducible exact Go.Sp.L.vcStepD (by rfl) q):P:=h q
theorem lE {P Q:Prop} (q:Q) (h:Q→P:=by intro q; with_reducible exact Go.Sp.L.vcEndD q):P:=h q
end Go.Sp.L
attribute [go_sem] Go.Sp.L.aopD Go.Sp.L.aloadR
namespace Go.Sp
def B0t (i j id:Nat):Nat:=if id=i then j else if id=j then i else id
theorem A57 (i j id:Nat):B0t i j (B0t i j id)=id:=by
 unfold B0t
 by_cases h1:id=i
 ·subst h1
  rw [if_pos rfl]
  by_cases h2:j=id
  ·rw [if_pos h2]; exact h2
  ·rw [if_neg h2,if_pos rfl]
 ·rw [if_neg h1]
  by_cases h2:id=j
  ·rw [if_pos h2,if_pos rfl]; exact h2.symm
  ·rw [if_neg h2,if_neg h1,if_neg h2]
def B6q (i j:Nat):Own→Own
 | .mine id=> .mine (B0t i j id)
 | x=>x
def A8t (i j:Nat) (σ:Sig):Sig:=fun b o=>B6q i j (σ b o)
theorem A85 (i j:Nat) (σ:Sig):Stab (A8t i j σ)=Stab σ:=by
 funext b o
 unfold Stab A8t
 cases h:σ b o<;>simp [B6q]
def B8S (i j:Nat) (ι:List Nat):List Nat:=(List.range ι.length).map fun id=>ι.getD (B0t i j id) 0
theorem A7c {i j:Nat} {ι:List Nat} (hi:i<ι.length) (hj:j<ι.length) (id:Nat):(B8S i j ι)[id]? =ι[B0t i j id]? :=by
 unfold B8S
 rw [List.getElem?_map]
 have hlt:B0t i j id<ι.length↔id<ι.length:=by unfold B0t; split<;>(try split)<;>omega
 by_cases h:id<ι.length
 ·rw [List.getElem?_range h,List.getElem?_eq_getElem (hlt.2 h),Option.map_some,List.getD_eq_getElem?_getD,List.getElem?_eq_getElem (hlt.2 h)]; rfl
 ·rw [List.getElem?_eq_none (by simpa using h),List.getElem?_eq_none (by rw [Nat.not_lt] at h; exact Nat.le_of_not_lt fun q=>by have:=hlt.1 q; omega)]; rfl
def A7G (i j:Nat):ACell→Option ACell
 | .int k n=>some (.int k n)
 | .bool b=>some (.bool b)
 | .slice rows .none=>some (.slice rows .none)
 | .ref id k o l c=>some (.ref (B0t i j id) k o l c)
 | .ptr id o=>some (.ptr (B0t i j id) o)
 | _=>none
theorem A86 {i j:Nat} {ι:List Nat} {σ:Sig} {w:World} {H H2:List Blk} {c c':ACell} {v:Value} (hi:i<ι.length) (hj:j<ι.length) (hc:A7G i j c=some c') (h:CRel ι σ w H c v):CRel (B8S i j ι) (A8t i j σ) w H2 c' v:=by
 unfold A7G at hc
 split at hc
 ·cases hc; exact h
 ·cases hc; exact h
 ·cases hc
  refine ⟨?_,trivial⟩
  rw [A85]; exact h.1
 ·cases hc
  obtain ⟨b,q1,q2⟩:=h
  exact ⟨b,by rw [A7c hi hj,A57]; exact q1,q2⟩
 ·cases hc
  obtain ⟨b,q1,q2⟩:=h
  exact ⟨b,by rw [A7c hi hj,A57]; exact q1,q2⟩
 ·cases hc
theorem B6r {ι ι':List Nat} {σ σ':Sig} {w w':World} {H H' H2:List Blk} {c c':ACell} {v:Value} (i j:Nat) (hι:ι.length=H.length) (hr:CRel ι' σ' w' H' c v) (hH:HRel ι' σ' w' H') (M:Mono ι σ w H ι' σ' w' H') (E:Ext σ w σ' w') (hi:H.length≤i) (hj:H.length≤j) (hi':i<H'.length) (hj':j<H'.length) (hl:H2.length=H'.length)
  (hb: ∀id,id<H'.length→(∃cs cs',H'[id]? =some (.box cs)∧cs.mapM (A7G i j)=some cs'∧H2[B0t i j id]? =some (.box cs'))∨ ∃ts,H'[id]? =some (.ro ts)∧H2[B0t i j id]? =some (.ro ts)) (hc:A7G i j c=some c'):
  ∃ι2 σ2,CRel ι2 σ2 w' H2 c' v∧HRel ι2 σ2 w' H2∧Mono ι σ w H ι2 σ2 w' H2∧Ext σ w σ2 w':=by
 have hil:i<ι'.length:=by rw [hH.1]; exact hi'
 have hjl:j<ι'.length:=by rw [hH.1]; exact hj'
 refine ⟨B8S i j ι',A8t i j σ',A86 hil hjl hc hr,⟨by unfold B8S; simp [hH.1,hl],fun id2 blk b q1 q2=> ?_⟩,⟨fun b o u q1 q2=> ?_,fun id b q=> ?_,fun id tip k q=> ?_⟩,⟨E.os,E.tape,E.output,E.size,fun b o u q1 q2=> ?_,fun b q1 q2=> ?_,fun b o q1 q2=> ?_,E.drawn⟩⟩
 ·rw [A7c hil hjl] at q2
  have hlt:B0t i j id2<H'.length:=by rw [←hH.1]; exact (List.getElem?_eq_some_iff.1 q2).1
  rcases hb _ hlt with ⟨cs,cs',p1,p2,p3⟩ | ⟨ts,p1,p3⟩
  rotate_left
  ·rw [A57] at p3
   rw [q1] at p3
   cases p3
   have hk:=hH.2 _ _ b p1 q2
   intro x t hx
   obtain ⟨s1,u,s2,s3⟩:=hk x t hx
   exact ⟨by unfold A8t; rw [s1]; rfl,u,s2,by rw [A85]; exact s3⟩
  rw [A57] at p3
  rw [q1] at p3
  cases p3
  obtain ⟨ha,hk⟩:=hH.2 _ _ b p1 q2
  refine ⟨ha,fun x y hy=> ?_⟩
  obtain ⟨m1,m2⟩:=A0B p2
  have hx:x<cs.length:=by have:=(List.getElem?_eq_some_iff.1 hy).1; omega
  have hcx:=m2 x cs[x] y (List.getElem?_eq_getElem hx) hy
  obtain ⟨s1,s2,u,s3,s4⟩:=hk x cs[x] (List.getElem?_eq_getElem hx)
  refine ⟨?_,s2,u,s3,A86 hil hjl hcx s4⟩
  unfold A8t
  rw [s1]
  show Own.mine _=_
  rw [A57]
 ·obtain ⟨s1,s2⟩:=M.stab b o u q1 q2
  exact ⟨by unfold A8t; rw [s1]; rfl,s2⟩
 ·have hlt:id<H.length:=by rw [←hι]; exact (List.getElem?_eq_some_iff.1 q).1
  have e:B0t i j id=id:=by unfold B0t; rw [if_neg (by omega),if_neg (by omega)]
  rw [A7c hil hjl,e]
  exact M.iota id b q
 ·have hlt:id<H.length:=(List.getElem?_eq_some_iff.1 q).1
  obtain ⟨tip',k',q1,q2⟩:=M.chain id tip k q
  have hlt':id<H'.length:=(List.getElem?_eq_some_iff.1 q1).1
  rcases hb id hlt' with ⟨cs,cs',p1,p2,p3⟩ | ⟨ts,p1,p3⟩<;>(rw [q1] at p1; cases p1)
 ·obtain ⟨s1,s2⟩:=E.keep b o u q1 q2
  exact ⟨by unfold A8t; rw [s1]; rfl,s2⟩
 ·obtain ⟨s1,s2⟩:=E.obj b q1 q2
  refine ⟨s1,fun o id=> ?_⟩
  unfold A8t
  have:=s2 o
  cases hq:σ' b o with
  | mine x=>exact absurd hq (this x)
  | stable=>simp [B6q]
  | foreign=>simp [B6q]
 ·have:=E.back b o q1 q2
  unfold A8t; rw [this]; rfl
theorem ACallE.swapTo {P:Program} {f:FuncId} {H H1 H2:List Blk} {args:List AVal} {c c2:ACell} (h:ACallE P f H args (fun H' r=>(H'=H1∧r= .c c)∨(H'=H2∧r= .c c2))) (i j:Nat) (hi:H.length≤i) (hj:H.length≤j) (hi':i<H2.length) (hj':j<H2.length) (hl:H1.length=H2.length)
  (hb: ∀id,id<H2.length→(∃cs cs',H2[id]? =some (.box cs)∧cs.mapM (A7G i j)=some cs'∧H1[B0t i j id]? =some (.box cs'))∨ ∃ts,H2[id]? =some (.ro ts)∧H1[B0t i j id]? =some (.ro ts)) (hc:A7G i j c2=some c):ACallH P f H args H1 (.c c):=by
 refine ⟨h.enters,fun ι σ w vs h1 h2 h3=>(h.runs ι σ w vs h1 h2 h3).mono ?_⟩
 rintro e w' ⟨v,ι',σ',H',r,hR,he,hr,hH,M,E⟩
 rcases hR with ⟨rfl,rfl⟩ | ⟨rfl,rfl⟩
 ·exact ⟨v,ι',σ',he,hr,hH,M,E⟩
 ·obtain ⟨ι2,σ2,q1,q2,q3,q4⟩:=B6r i j h1.1 hr hH M E hi hj hi' hj' hl hb hc
  exact ⟨v,ι2,σ2,he,q1,q2,q3,q4⟩
end Go.Sp
namespace Go.Sp
def B99 (n:Nat):Own→Own
 | .mine id=> .mine (n+id)
 | x=>x
def A4V (σ:Sig):Sig:=fun b o=>match σ b o with
 | .mine _=> .foreign
 | x=>x
theorem B16 (σ:Sig):Stab (A4V σ)=Stab σ:=by
 funext b o
 unfold Stab A4V
 cases h:σ b o<;>simp
theorem A5j (σ:Sig) (b o id:Nat):A4V σ b o≠ .mine id:=by
 unfold A4V
 cases h:σ b o<;>simp
def A58 (n s:Nat) (σ σ':Sig):Sig:=fun b o=>if b<s then σ b o else B99 n (σ' b o)
def A87 (n:Nat):ACell→Option ACell
 | .int k x=>some (.int k x)
 | .bool b=>some (.bool b)
 | .slice rows .none=>some (.slice rows .none)
 | .ref id k o l c=>some (.ref (n+id) k o l c)
 | .ptr id o=>some (.ptr (n+id) o)
 | _=>none
theorem A6m {n:Nat} {σ σ':Sig} {w w':World} (E:Ext (A4V σ) w σ' w') (b o:Nat) (h:σ' b o= .stable):A58 n w.heap.size σ σ' b o= .stable:=by
 unfold A58
 by_cases hb:b<w.heap.size
 ·rw [if_pos hb]
  have hm:=(A5j σ b o)
  cases hs:σ b o with
  | stable=>rfl
  | foreign=>
   have:=E.back b o hb (by unfold A4V; rw [hs])
   rw [h] at this; cases this
  | mine id=>
   have:=E.back b o hb (by unfold A4V; rw [hs])
   rw [h] at this; cases this
 ·rw [if_neg hb,h]; rfl
theorem A6n {n:Nat} {ι ι':List Nat} {σ σ':Sig} {w w':World} {H' H2:List Blk} {c c':ACell} {v:Value} (hn:ι.length=n) (E:Ext (A4V σ) w σ' w') (hc:A87 n c=some c') (h:CRel ι' σ' w' H' c v):CRel (ι++ι') (A58 n w.heap.size σ σ') w' H2 c' v:=by
 unfold A87 at hc
 split at hc
 ·cases hc; exact h
 ·cases hc; exact h
 ·cases hc
  exact ⟨h.1.mono fun b o u h3 h4=>⟨A6m E b o h3,h4⟩,trivial⟩
 ·cases hc
  obtain ⟨b,q1,q2⟩:=h
  exact ⟨b,by rw [List.getElem?_append_right (by omega),hn,Nat.add_sub_cancel_left]; exact q1,q2⟩
 ·cases hc
  obtain ⟨b,q1,q2⟩:=h
  exact ⟨b,by rw [List.getElem?_append_right (by omega),hn,Nat.add_sub_cancel_left]; exact q1,q2⟩
 ·cases hc
end Go.Sp
namespace Go.Sp
def B6s (n:Nat):AVal→Option AVal
 | .c x=>(A87 n x).map AVal.c
 | .tup xs=>(xs.mapM fun x=>match x with | AVal.c y=>(A87 n y).map AVal.c | _=>none).map AVal.tup
 | _=>none
theorem B4C {n:Nat} {ι ι':List Nat} {σ σ':Sig} {w w':World} {H' H2:List Blk} {r r':AVal} {v:Value} (hn:ι.length=n) (E:Ext (A4V σ) w σ' w') (hc:B6s n r=some r') (h:VRel ι' σ' w' H' r v):VRel (ι++ι') (A58 n w.heap.size σ σ') w' H2 r' v:=by
 cases r with
 | c x=>
  simp only [B6s,Option.map_eq_some_iff] at hc
  obtain ⟨y,hy,rfl⟩:=hc
  exact A6n hn E hy h
 | agg cs=>cases hc
 | tup xs=>
  simp only [B6s,Option.map_eq_some_iff] at hc
  obtain ⟨ys,hy,rfl⟩:=hc
  obtain ⟨m1,m2⟩:=A0B hy
  obtain ⟨vs,rfl,hl,hk⟩:=h
  refine ⟨vs,rfl,by omega,fun j y u q1 q2=> ?_⟩
  have hj:j<xs.length:=by have:=(List.getElem?_eq_some_iff.1 q1).1; omega
  have hx:=List.getElem?_eq_getElem hj
  have hz:=m2 j _ y hx q1
  have hv:=hk j _ u hx q2
  generalize xs[j]=x at*
  cases x with
  | c z=>
   simp only [Option.map_eq_some_iff] at hz
   obtain ⟨z',h1,rfl⟩:=hz
   exact A6n hn E h1 hv
  | agg cs=>cases hz
  | tup cs=>cases hz
theorem ACallH.frame {P:Program} {f:FuncId} {ts:List TVal} {H' X:List Blk} {r r':AVal} (h:ACallH P f [] (ts.map ofT) H' r) {H:List Blk} {args:List AVal} (ha:args.mapM (toT A0a)=some ts) (hl:X.length=H'.length)
  (hb: ∀id,id<H'.length→(∃cs cs',H'[id]? =some (.box cs)∧cs.mapM (A87 H.length)=some cs'∧X[id]? =some (.box cs'))∨ ∃ts,H'[id]? =some (.ro ts)∧X[id]? =some (.ro ts)) (hr:B6s H.length r=some r'):ACallH P f H args (H++X) r':=by
 refine ⟨h.enters,fun ι σ w vs hH hlv hv=> ?_⟩
 obtain ⟨e1,e2⟩:=A0B ha
 refine (h.runs [] (A4V σ) w vs ⟨rfl,fun id blk b q=>by simp at q⟩ (by rw [List.length_map]; omega) (fun j x u h1 h2=> ?_)).mono ?_
 ·rw [List.getElem?_map] at h1
  obtain ⟨t,ht,rfl⟩:=Option.map_eq_some_iff.1 h1
  have hlt:j<args.length:=by have:=(List.getElem?_eq_some_iff.1 ht).1; omega
  have hc:=List.getElem?_eq_getElem hlt
  refine A3r ?_
  rw [B16]
  exact A4i (fun c t v h3 h4=>A00 h3 h4) (hv j _ u hc h2) (e2 j _ t hc ht)
 ·rintro e w' ⟨v,ι',σ',he,hrr,hH2,M,E⟩
  have hs: ∀b' o,b'<w.heap.size→A58 H.length w.heap.size σ σ' b' o=σ b' o:=fun b' o h=>by unfold A58; rw [if_pos h]
  have hw: ∀b,b<w.heap.size→w'.heap[b]? =w.heap[b]? :=fun b h=>(E.obj b h fun o id=>A5j σ b o id).1
  have M2:=Mono.grow (ι:=ι) (H:=H) hw hs ι' X
  have hG:=hH.grow hw hs ⟨E.os,E.tape,E.output,E.size,E.drawn⟩ ι' X (by rw [hH2.1,hl]) (fun j blk b' q1 q2=>by
   have hj:j<H'.length:=by rw [←hl]; exact (List.getElem?_eq_some_iff.1 q1).1
   rcases hb j hj with ⟨cs,cs',p1,p2,p3⟩ | ⟨ts,p1,p3⟩
   ·rw [q1] at p3; cases p3
    obtain ⟨hf,hk⟩:=hH2.2 _ _ b' p1 q2
    refine ⟨hf,fun x y hy=> ?_⟩
    obtain ⟨m1,m2⟩:=A0B p2
    have hx:x<cs.length:=by have:=(List.getElem?_eq_some_iff.1 hy).1; omega
    have hcx:=m2 x cs[x] y (List.getElem?_eq_getElem hx) hy
    obtain ⟨s1,s2,u,s3,s4⟩:=hk x cs[x] (List.getElem?_eq_getElem hx)
    have hbn: ¬b'<w.heap.size:=fun hlt=>(E.obj b' hlt fun o id=>A5j σ b' o id).2 x j s1
    refine ⟨?_,s2,u,s3,A6n hH.1 E hcx s4⟩
    unfold A58
    rw [if_neg hbn,s1]; rfl
   ·rw [q1] at p3; cases p3
    have hk:=hH2.2 _ _ b' p1 q2
    intro x t hx
    obtain ⟨s1,u,s2,s3⟩:=hk x t hx
    exact ⟨A6m E b' x s1,u,s2,s3.mono fun b o u h3 h4=>⟨A6m E b o h3,h4⟩⟩)
  exact ⟨v,ι++ι',A58 H.length w.heap.size σ σ',he,B4C hH.1 E hr hrr,hG,M2,Ext.grow E.os E.tape E.output E.size hw hs E.drawn⟩
end Go.Sp
namespace Go.Sp
def B3n (σ:Sig):Sig:=fun b o=>match σ b o with
 | .foreign=> .foreign
 | _=> .stable
theorem A88 (σ:Sig) (b o id:Nat):B3n σ b o≠ .mine id:=by
 unfold B3n
 split<;>simp
theorem B3o {σ:Sig} {b o:Nat} (h:Open σ b o):Stab (B3n σ) b o:=by
 show B3n σ b o= .stable
 unfold B3n
 split
 ·rename_i hx; exact absurd hx h
 ·rfl
def A6o (n:Nat):ACell→Option ACell
 | .int k x=>some (.int k x)
 | .bool b=>some (.bool b)
 | .ref id k o l c=>some (.ref (n+id) k o l c)
 | .ptr id o=>some (.ptr (n+id) o)
 | _=>none
theorem A5k {n:Nat} {ι ι':List Nat} {σ σ':Sig} {w w':World} {H' H2:List Blk} {c c':ACell} {v:Value} (hn:ι.length=n) (hc:A6o n c=some c') (h:CRel ι' σ' w' H' c v):CRel (ι++ι') (A58 n w.heap.size σ σ') w' H2 c' v:=by
 unfold A6o at hc
 split at hc
 ·cases hc; exact h
 ·cases hc; exact h
 ·cases hc
  obtain ⟨b,q1,q2⟩:=h
  exact ⟨b,by rw [List.getElem?_append_right (by omega),hn,Nat.add_sub_cancel_left]; exact q1,q2⟩
 ·cases hc
  obtain ⟨b,q1,q2⟩:=h
  exact ⟨b,by rw [List.getElem?_append_right (by omega),hn,Nat.add_sub_cancel_left]; exact q1,q2⟩
 ·cases hc
def B21 (n:Nat):AVal→Option AVal
 | .c x=>(A6o n x).map AVal.c
 | .tup xs=>(xs.mapM fun x=>match x with | AVal.c y=>(A6o n y).map AVal.c | _=>none).map AVal.tup
 | _=>none
theorem B3p {n:Nat} {ι ι':List Nat} {σ σ':Sig} {w w':World} {H' H2:List Blk} {r r':AVal} {v:Value} (hn:ι.length=n) (hc:B21 n r=some r') (h:VRel ι' σ' w' H' r v):VRel (ι++ι') (A58 n w.heap.size σ σ') w' H2 r' v:=by
 cases r with
 | c x=>
  simp only [B21,Option.map_eq_some_iff] at hc
  obtain ⟨y,hy,rfl⟩:=hc
  exact A5k hn hy h
 | agg cs=>cases hc
 | tup xs=>
  simp only [B21,Option.map_eq_some_iff] at hc
  obtain ⟨ys,hy,rfl⟩:=hc
  obtain ⟨m1,m2⟩:=A0B hy
  obtain ⟨vs,rfl,hl,hk⟩:=h
  refine ⟨vs,rfl,by omega,fun j y u q1 q2=> ?_⟩
  have hj:j<xs.length:=by have:=(List.getElem?_eq_some_iff.1 q1).1; omega
  have hx:=List.getElem?_eq_getElem hj
  have hz:=m2 j _ y hx q1
  have hv:=hk j _ u hx q2
  generalize xs[j]=x at*
  cases x with
  | c z=>
   simp only [Option.map_eq_some_iff] at hz
   obtain ⟨z',h1,rfl⟩:=hz
   exact A5k hn h1 hv
  | agg cs=>cases hz
  | tup cs=>cases hz
theorem ACallH.frameB {P:Program} {f:FuncId} {ts:List TVal} {H' X:List Blk} {r r':AVal} (h:ACallH P f [] (ts.map ofT) H' r) {H:List Blk} {args:List AVal} (ha:args.mapM (toT (A0e H))=some ts) (hl:X.length=H'.length)
  (hb: ∀id,id<H'.length→(∃cs cs',H'[id]? =some (.box cs)∧cs.mapM (A6o H.length)=some cs'∧X[id]? =some (.box cs'))∨X[id]? =some .dead) (hr:B21 H.length r=some r'):ACallH P f H args (H++X) r':=by
 refine ⟨h.enters,fun ι σ w vs hH hlv hv=> ?_⟩
 obtain ⟨e1,e2⟩:=A0B ha
 refine (h.runs [] (B3n σ) w vs ⟨rfl,fun id blk b q=>by simp at q⟩ (by rw [List.length_map]; omega) (fun j x u h1 h2=> ?_)).mono ?_
 ·rw [List.getElem?_map] at h1
  obtain ⟨t,ht,rfl⟩:=Option.map_eq_some_iff.1 h1
  have hlt:j<args.length:=by have:=(List.getElem?_eq_some_iff.1 ht).1; omega
  have hc:=List.getElem?_eq_getElem hlt
  exact A3r ((A4i (fun c t v h3 h4=>A3w hH h3 h4) (hv j _ u hc h2) (e2 j _ t hc ht)).mono fun b o u h5 h6=>⟨B3o h5,h6⟩)
 ·rintro e w' ⟨v,ι',σ',he,hrr,hH2,M,E⟩
  have hs: ∀b' o,b'<w.heap.size→A58 H.length w.heap.size σ σ' b' o=σ b' o:=fun b' o h=>by unfold A58; rw [if_pos h]
  have hw: ∀b,b<w.heap.size→w'.heap[b]? =w.heap[b]? :=fun b h=>(E.obj b h fun o id=>A88 σ b o id).1
  have M2:=Mono.grow (ι:=ι) (H:=H) hw hs ι' X
  have hG:=hH.grow hw hs ⟨E.os,E.tape,E.output,E.size,E.drawn⟩ ι' X (by rw [hH2.1,hl]) (fun j blk b' q1 q2=>by
   have hj:j<H'.length:=by rw [←hl]; exact (List.getElem?_eq_some_iff.1 q1).1
   rcases hb j hj with ⟨cs,cs',p1,p2,p3⟩ | p3
   ·rw [q1] at p3; cases p3
    obtain ⟨hf,hk⟩:=hH2.2 _ _ b' p1 q2
    refine ⟨hf,fun x y hy=> ?_⟩
    obtain ⟨m1,m2⟩:=A0B p2
    have hx:x<cs.length:=by have:=(List.getElem?_eq_some_iff.1 hy).1; omega
    have hcx:=m2 x cs[x] y (List.getElem?_eq_getElem hx) hy
    obtain ⟨s1,s2,u,s3,s4⟩:=hk x cs[x] (List.getElem?_eq_getElem hx)
    have hbn: ¬b'<w.heap.size:=fun hlt=>(E.obj b' hlt fun o id=>A88 σ b' o id).2 x j s1
    refine ⟨?_,s2,u,s3,A5k hH.1 hcx s4⟩
    unfold A58
    rw [if_neg hbn,s1]; rfl
   ·rw [q1] at p3; cases p3; trivial)
  exact ⟨v,ι++ι',A58 H.length w.heap.size σ σ',he,B3p hH.1 hr hrr,hG,M2,Ext.grow E.os E.tape E.output E.size hw hs E.drawn⟩
end Go.Sp
namespace Go.Sp
section
variable {P:Program} {rd:Option Nat} {o:Oper} {ρ:Operand→AVal} {H:List Blk}
theorem A8u (t:TypeId) (x:Operand) (ho:o.op= .slice t x none none none) {n e:Nat} (hE:A0H P t=some (some n,e)) (hk:A0w P e=some 1) (h0:0<n) {j off:Nat} (hx:ρ x= .c (.ptr j off)):AStep P rd o ρ H (.c (.ref j 1 off n n)) H:=by
 refine AStep.value (by simp [ho]) fun ι σ a w hx' hH=> ?_
 have vx:=hx' x (by simp [Op.operands,ho])
 rw [hx] at vx
 obtain ⟨b,hb,ev⟩:=vx
 have hu:=A3D hE
 have hl:P.arrayLen t=n:=by simp [Program.arrayLen,hu]
 have hel:P.elem t=e:=by simp [Program.elem,hu]
 have hu':P.underlying t=some (.array (P.arrayLen t) (P.elem t)):=by rw [hl,hel]; exact hu
 have hs:(Instr.sliceAt t (a.eval x) none none none).run P w= .ok (.slice (some ⟨b,off,none⟩) n n) w:=by
  rw [ev,run_sliceAt_array_all w t _ hu',hel]
  simp only [A1P hk,Result.andThen_ok,slicedAt,hl]
  have: ¬n=0:=by omega
  simp [this,Addr.add]
 exact ⟨_,by simp only [execOp,ho,Option.map_none,Sem.run_bind,hs,Result.andThen_ok,Sem.run_pure],b,hb,n,Nat.le_refl _,rfl⟩
theorem A9p (x y:Operand) (t tx:TypeId) (ho:o.op= .call { callee:= .builtin .copy,args:= #[x,y],argTypes:= #[t,tx] }) {e:TypeId} (hE:A0H P t=some (none,e)) (hk:A0w P e=some 1)
  {j j2 off len cap off2 len2 cap2:Nat} (hx:ρ x= .c (.ref j 1 off len cap)) (hy:ρ y= .c (.ref j2 1 off2 len2 cap2)) {cs cs2:List ACell} (hj:H[j]? =some (.box cs)) (hj2:H[j2]? =some (.box cs2)) {n:Nat} (hn:Nat.min len2 len=n) (hc:off+n≤cs.length) (hc2:off2+n≤cs2.length)
  (hany: ∀c,c∈(cs2.drop off2).take n→c≠ .any):
  AStep P rd o ρ H (.c (.int .i64 n)) (H.set j (.box (setMany cs off ((cs2.drop off2).take n)))):=by
 refine AStep.turn (by simp [ho]) fun ι σ a w hx' hH=> ?_
 have vx:=hx' x (by simp [Op.operands,ho,Call.operands])
 rw [hx] at vx
 obtain ⟨b,hb,cap',hcap,ev⟩:=vx
 have vy:=hx' y (by simp [Op.operands,ho,Call.operands])
 rw [hy] at vy
 obtain ⟨b',hb',cap2',hcap2,ev2⟩:=vy
 have hu:=A0z hE
 obtain ⟨inf,hi,hsz⟩: ∃inf,P.info? e=some inf∧inf.size=1:=by
  unfold A0w at hk
  cases hi:P.info? e with
  | none=>simp [hi] at hk
  | some inf=>simp [hi] at hk; exact ⟨inf,rfl,hk⟩
 have hblk:=hH.2 j2 _ b' hj2 hb'
 have hcell: ∀i,i<n→ ∃v,w.cell? ⟨b',off2+i,none⟩=some v∧CRel ι σ w H (cs2.getD (off2+i) .any) v:=fun i hi'=>by
  obtain ⟨_,_,v,q3,q4⟩:=hblk.2 (off2+i) (cs2.getD (off2+i) .any) (by rw [List.getD_eq_getElem?_getD,List.getElem?_eq_getElem (by omega)]; rfl)
  exact ⟨v,q3,q4⟩
 let news:List Value:=(List.range n).map fun i=>(w.cell? ⟨b',off2+i,none⟩).getD undef
 have hnl:news.length=n:=by simp [news]
 have hng: ∀i,i<n→news[i]? =w.cell? ⟨b',off2+i,none⟩:=fun i hi'=>by
  obtain ⟨v,q,_⟩:=hcell i hi'
  simp only [news,List.getElem?_map,List.getElem?_range hi',Option.map_some,q,Option.getD_some]
 have hcr:A1f ι σ w H ((cs2.drop off2).take n) news.toArray:=by
  refine ⟨by simp [hnl]; omega,fun i c u h1 h2=> ?_⟩
  have hil:i<n:=by have:=(List.getElem?_eq_some_iff.1 h1).1; simp at this; omega
  obtain ⟨v,q1,q2⟩:=hcell i hil
  have h3:news[i]? =some u:=by simpa using h2
  rw [hng i hil,q1] at h3
  cases h3
  rw [List.getElem?_take,if_pos hil,List.getElem?_drop] at h1
  rw [List.getD_eq_getElem?_getD,h1] at q2
  exact q2
 have hone: ∀v∈news,v.oneCell'=true:=fun v hv=>by
  obtain ⟨i,hi',e⟩:=List.mem_iff_getElem.1 hv
  have hil:i<((cs2.drop off2).take n).length:=by simp; omega
  have e':news.toArray[i]? =some v:=by rw [←e]; simp
  exact (hcr.2 i _ v (List.getElem?_eq_getElem hil) e').one (hany _ (List.getElem_mem hil))
 obtain ⟨hin,q1,q2,q3⟩:=A5v (j:=off) hH hj hb news.toArray hcr (by simp; omega)
 have hst:=run_storeCells_cells (P:=P) b off news 0 w (fun i hi'=>by simpa using (hin i (by simpa using hi')).1) (fun i hi'=>by simpa using (hin i (by simpa using hi')).2) hone
 simp only [Nat.add_zero] at hst
 have hfc:=run_firstCells_some (P:=P) w inf.size n ⟨b',off2,none⟩ len2 cap2' news (by rw [hnl,hsz]; omega) (fun i u hu'=>by
  have hi':i<n:=by have:=(List.getElem?_eq_some_iff.1 hu').1; omega
  rw [hng i hi'] at hu'
  simpa [Addr.add_lit] using hu')
 rw [←ev2] at hfc
 have hlen:(Builtin.lenOf (a.eval y)).run P w= .ok len2 w:=by rw [ev2]; rfl
 have hrun:=A4m w _ t tx o.type e inf hu hi b off len cap' (a.eval y) len2 n news hlen hn hfc hst
 refine ⟨goInt n,_,ι,σ,.inl ?_,rfl,q1,q2,q3⟩
 rw [←ev] at hrun
 simp [execOp,ho,resolve,invoke,builtin,hrun]
end
end Go.Sp
namespace Go.Sp
theorem mapM_some {α β:Type} {f:α→Option β} {g:α→β}: ∀{l:List α},(∀x,x∈l→f x=some (g x))→l.mapM f=some (l.map g)
 | [],_=>rfl
 | x::l,h=>by rw [List.mapM_cons,h x (by simp),mapM_some fun y hy=>h y (by simp [hy])]; rfl
theorem B6t {P:Program} {kt it:TypeId} {n:Nat} (hu:P.underlying kt=some (.array n it)) (hc:P.cellsOf kt=n) (h3:P.underlying it=some (.int .i64)) (hc3:P.cellsOf it=1)
  (hk:P.keyType kt=true) (hsz:0<P.types.size):B1z P kt n:=by
 intro l hl
 obtain ⟨m,hm⟩: ∃m,P.types.size=m+1:=⟨P.types.size-1,by omega⟩
 simp only [KShape.ok,Bool.and_eq_true,beq_iff_eq,List.all_eq_true,decide_eq_true_eq] at hl
 obtain ⟨h1,h2⟩:=hl
 have e0: ∀i,i∈List.range n→P.keyLits (m+1) it (((l.map (Value.int .i64)).drop (i*P.cellsOf it)).take (P.cellsOf it))=some [Lit.int .i64 (l.getD i 0)]:=fun i hi=>by
  have hi':i<l.length:=by rw [h1]; exact List.mem_range.1 hi
  have ha:=h2 l[i] (List.getElem_mem hi')
  have hd:((l.map (Value.int .i64)).drop i).take 1=[.int .i64 l[i]]:=by
   rw [List.drop_eq_getElem_cons (by simpa using hi')]; simp
  rw [hc3,Nat.mul_one,hd,List.getD_eq_getElem?_getD,List.getElem?_eq_getElem hi']
  unfold Program.keyLits
  simp only [h3,wf_i64 ha.1 ha.2,and_self,if_true,Option.getD_some]
 have e2:P.keyLits (m+1+1) kt (l.map (Value.int .i64))=some ((List.range n).map fun i=>[Lit.int .i64 (l.getD i 0)]).flatten:=by
  unfold Program.keyLits
  simp only [hu]
  rw [if_pos (by rw [List.length_map,h1,hc]),mapM_some e0]
  rfl
 refine ⟨.string (keyBytes ((List.range n).map fun i=>[Lit.int .i64 (l.getD i 0)]).flatten),?_⟩
 unfold keyOf
 simp only [hu,hk,MKey.kv,Value.formed]
 simp only [Value.cells,hm,e2,List.size_toArray,List.length_map,h1,hc,Option.map_some]
 simp [h1]
end Go.Sp
namespace Go.Sp
open Go.RowKit
theorem AReg.lenmap {P:Program} {rd:Option Nat} {h:Nat} {Q:Exit→St→Prop} {all:Array Oper} {rest0 rest:List Oper} {tm:List AVal} {H:List Blk} {o:Oper} (he:rest0=o::rest)
  {x:Operand} {ty:TypeId} (ho:o.op= .call { callee:= .builtin .len,args:= #[x],argTypes:= #[ty] }) (hg:gwant all tm o=some true) {kt et:TypeId} (hT:A9f P ty=some (kt,et)) {id:Nat} {es:List (MKey×MV)} (hx:aeval tm x= .c (.map id)) (hid:H[id]? =some (.map es))
  (hk:AReg P rd h all rest Q (A1u tm o.dst (.c (.int .i64 (es.length:Int)))) H):AReg P rd h all rest0 Q tm H:=by
 subst he
 refine ⟨fun N ι0 σ0 w0 H0 ι σ a w r1 r2 r3 r4 r5=> ?_⟩
 unfold wpListIn
 rw [if_pos (A0Y r1.tmps hg)]
 refine ⟨fun _ _=>trivial,?_⟩
 rw [Oper.semAt_eq _ _ _ (by simp [ho])]
 have vx:=A0Q r1.tmps x
 rw [hx] at vx
 obtain ⟨b,hb,e1⟩:=vx
 obtain ⟨_,arr,ha,hs,_⟩:=r1.heap.2 id _ b hid hb
 have hu:P.underlying ty=some (.map (P.mapKeyOf ty) (P.mapElemOf ty)):=by
  unfold A9f at hT
  split at hT
  ·rename_i k e hq
   simp only [Program.mapKeyOf,Program.mapElemOf,hq]
  ·cases hT
 have hrun:(execOp a.eval o).run P w= .ok (.value (.int .i64 (es.length:Int))) w:=by
  simp [execOp,ho,resolve,invoke,builtin,e1,run_len_map w ty _ b arr es.length hu ha,hs,goInt]
 rw [hrun]
 exact hk.out N ι0 σ0 w0 H0 ι σ _ w ⟨A1b r1.tmps rfl,r1.heap⟩ r2 (by rw [Act.put_defers]; exact r3) r4 r5
end Go.Sp
namespace Go.Sp
open Go.RowKit
section
variable {P:Program} {rd:Option Nat} {o:Oper} {ρ:Operand→AVal} {H:List Blk}
theorem A6E {k:Nat}: ∀{rows:List (List Tree)},(∀r,r∈rows→r.length=k)→(flatRows rows).length=rows.length*k
 | [],_=>by simp [flatRows]
 | r::rows,h=>by
  have ih:=A6E (rows:=rows) fun r hr=>h r (by simp [hr])
  have h1:=h r (by simp)
  unfold flatRows at ih ⊢
  rw [List.length_map] at ih ⊢
  rw [List.flatten_cons,List.length_append,ih,h1,List.length_cons,Nat.add_mul]
  omega
theorem A34 (x y:Operand) (t tx:TypeId) (ho:o.op= .call { callee:= .builtin .append,args:= #[x,y],argTypes:= #[t,tx] }) {e e2:TypeId} (hE:A0H P t=some (none,e)) (hE2:A0H P tx=some (none,e2)) {k:Nat} (hk:A0w P e=some k) (hk0:0<k)
  {z:Value} (hz:A0J P e=some z) (hzc:z.cells.size=k) {by':Nat} (hby:A0G P e=some by') (hx:ρ x= .c (.slice [] .exact)) {rows:List (List Tree)} (hy:rowsOf (ρ y)=some rows) (hr: ∀r,r∈rows→r.length=k) (hn0:0<rows.length)
  (hfit:rows.length*by'≤140737488355328) (h63:rows.length≤4611686018427387904):
  AStep P rd o ρ H (.c (.ref H.length k 0 rows.length rows.length)) (H++[.box (flatRows rows)]):=by
 refine AStep.turn (by simp [ho]) fun ι σ a w hx' hH=> ?_
 have vx:=hx' x (by simp [Op.operands,ho,Call.operands])
 rw [hx] at vx
 obtain ⟨v1,ax,nx,e0⟩:=vx
 obtain ⟨ax',ev⟩: ∃a',a.eval x= .slice a' 0 0:=by
  rw [e0] at v1 ⊢
  cases v1 with
  | nil a c=>exact ⟨_,rfl⟩
  | slice b off k c rows cell hn=>exact ⟨_,rfl⟩
 have vy:=A2a (hx' y (by simp [Op.operands,ho,Call.operands])) hy
 have hu:=A0z hE
 obtain ⟨inf,hi,hsz,hbb,hzz⟩: ∃inf,P.info? e=some inf∧inf.size=k∧inf.bytes=by'∧inf.zero=some z:=by
  unfold A0w at hk; unfold A0G at hby; unfold A0J at hz
  cases hi:P.info? e with
  | none=>simp [hi] at hk
  | some inf=>simp [hi] at hk hby hz; exact ⟨inf,rfl,hk,hby,hz⟩
 subst hsz
 obtain ⟨news,hsrc,hg⟩:=vy.src (P:=P) (k:=inf.size) hr hk0 (A0z hE2)
 have hfl:=A6E hr
 have hnl:=hsrc.newsLen
 have hrun:=run_append_grow_src w t tx o.type e inf z hu hi hzz ax' 0 0 [] (by cases ax' with
  | none=>exact run_firstCells_none w.drew _ _ _ _
  | some ad=>exact run_firstCells_some w.drew _ _ ad _ _ [] (by simp) (fun j u h=>by simp at h)) (a.eval y) rows.length news hsrc (by omega) (by omega) (by
  have h2:=nextslicecap_le (need:=rows.length) (old:=0) (by omega)
  rw [Nat.zero_add]
  refine Nat.le_trans (Nat.mul_le_mul_right _ h2) ?_
  rw [hbb,Nat.mul_assoc]; omega)
 rw [Nat.zero_add] at hrun
 have hge:=grownCap_ge w rows.length 0 e
 generalize grownCap w rows.length 0 e=c' at hrun hge
 generalize harr:(([]++news).toArray++Builtin.zeroCells z.cells (c'-rows.length))=arr at hrun
 have hcellA: ∀m,m<rows.length*inf.size→arr[m]? =news[m]? :=fun m hm=>by
  rw [←harr,Array.getElem?_append_left (by simp [hnl]; omega)]
  simp
 have hw: ∀b,b<w.heap.size→(w.drew.alloc (.cells arr e)).heap[b]? =w.heap[b]? :=fun b hb=>Below.heap_alloc w.drew _ b hb
 have hnew:(w.drew.alloc (.cells arr e)).heap[w.heap.size]? =some (.cells arr e):=A48 w.drew _
 have hs: ∀b o,b<w.heap.size→(σ.new w.heap.size (.mine H.length)) b o=σ b o:=fun b o hb=>by simp [Sig.new,Nat.ne_of_lt hb]
 have hsz':w.heap.size≤(w.drew.alloc (.cells arr e)).heap.size:=by simp
 have E:Ext σ w (σ.new w.heap.size (.mine H.length)) (w.drew.alloc (.cells arr e)):=Ext.grow rfl rfl rfl hsz' hw hs (Nat.le_succ _)
 have M:=Mono.grow (ι:=ι) (H:=H) (σ':=σ.new w.heap.size (.mine H.length)) hw hs [w.heap.size] [.box (flatRows rows)]
 have hH':=hH.grow (σ':=σ.new w.heap.size (.mine H.length)) hw hs ⟨rfl,rfl,rfl,hsz',Nat.le_succ _⟩ [w.heap.size] [.box (flatRows rows)] rfl (fun j blk b' h1 h2=>by
  cases j with
  | succ j=>simp at h1
  | zero=>
   simp at h1 h2
   subst h1; subst h2
   refine ⟨⟨arr,e,_,hnew⟩,fun j c hj=> ?_⟩
   have hjn:j<rows.length*inf.size:=by have:=(List.getElem?_eq_some_iff.1 hj).1; rw [hfl] at this; exact this
   simp only [flatRows,List.getElem?_map] at hj
   cases hx2:rows.flatten[j]? with
   | none=>rw [hx2] at hj; simp at hj
   | some tr=>
    rw [hx2] at hj; simp at hj; subst hj
    obtain ⟨i',j',r,rfl,hri,hrj⟩:=A5e hr hx2
    obtain ⟨u',hu',hur⟩:=hg i' r j' tr hri hrj
    refine ⟨by simp [Sig.new],by unfold World.frozen?; rw [hnew]; simp,u',by unfold World.cell?; rw [hnew]; simp [hcellA _ hjn,hu'],?_⟩
    exact M.cell (A0R hur))
 refine ⟨_,_,_,_,.inl ?_,⟨w.heap.size,by simp [←hH.1],c',hge,rfl⟩,hH',M,E⟩
 rw [←ev] at hrun
 simp [execOp,ho,resolve,invoke,builtin,hrun]
end
end Go.Sp
namespace Go.Sp
open Go.RowKit
theorem AWp.noGhost {P:Program} {rd:Option Nat} {h:Nat} {c:Code} {Q:Exit→St→Prop} {tm:List AVal} {H:List Blk} {G:Sig→World→Prop} (hG: ∀σ w,¬G σ w):AWp P rd h c Q ⟨tm,.ghost G::H⟩:=by
 refine ⟨fun N ι σ a w h1 h2 h3 h4=> ?_⟩
 have hi:=h1.heap.1
 have hlt:0<ι.length:=by rw [hi]; simp
 have:=h1.heap.2 0 (.ghost G) ι[0] rfl (List.getElem?_eq_getElem hlt)
 exact absurd this.1 (hG σ w)
structure AIterB (P:Program) (gf:FuncId) (caps:List Tree) (xs:List (List TVal)):Prop where
 enters: ∀args w,(callFunc gf args).run P w= .ok (.enter gf args) w
 runs: ∀(l:Nat) (J:Nat→Sig→World→Prop) (Jx:Sig→World→Prop),(∀k,Clo (J k))→Clo Jx→(∀k ts,xs[k]? =some ts→YStep P l (J k) ts (J (k+1)) Jx)→(∀σ w,¬J xs.length σ w)→
  ∀(σ:Sig) (w:World) (vs:List Value),vs.length=caps.length→(∀(j:Nat) t u,caps[j]? =some t→vs[j]? =some u→TRel (Stab σ) w t u)→J 0 σ w→
  CallsIn (Fr none) 8 P gf (#[.func (.yield l) #[] #[]]++vs.toArray) w fun e w'=>(∃v,e= .returned v)∧ ∃σ',J xs.length σ' w'∨Jx σ' w'
theorem AIterB.of_body {P:Program} {gf:FuncId} {fn:Func} {c:Code} {caps:List Tree} {xs:List (List TVal)} (hf:P.funcs[gf]? =some fn) (hb:fn.body=some c) (hn:A9b fn.name=true) (hres:fn.results= #[])
  (hw: ∀(l:Nat) (J:Nat→Sig→World→Prop) (Jx:Sig→World→Prop),(∀k,Clo (J k))→Clo Jx→(∀k ts,xs[k]? =some ts→YStep P l (J k) ts (J (k+1)) Jx)→(∀σ w,¬J xs.length σ w)→
   AWp P none 0 c (B8O (J xs.length) Jx) ⟨entry fn (.c (.yld l)::caps.map fun t=> .c (A0x t)),[.ghost (J 0)]⟩):AIterB P gf caps xs:=by
 refine ⟨enters_of hf hb hn,fun l J Jx hJ hJx hY hNo σ w vs hl hv h0=> ?_⟩
 refine A3O (rd:=none) (n:=9) (callsIn_of_wp_marks (F:=Fr none) (n:=9) hf hb trivial ?_)
 have hrel:SRel [0] σ ⟨entry fn (.c (.yld l)::caps.map fun t=> .c (A0x t)),[.ghost (J 0)]⟩ { tmps:= #[.func (.yield l) #[] #[]]++vs.toArray++Array.replicate (fn.ntmps-(#[Value.func (.yield l) #[] #[]]++vs.toArray).size) undef,defers:=[] } w:=by
  refine ⟨?_,rfl,fun id blk b h1 h2=> ?_⟩
  ·have:=A2N (ι:=[0]) (σ:=σ) (w:=w) (H:=[.ghost (J 0)]) (fn:=fn) (args:= .c (.yld l)::caps.map fun t=> .c (A0x t)) (vs:= .func (.yield l) #[] #[]::vs) (by simp [hl]) (fun j x u h1 h2=>by
    cases j with
    | zero=>simp at h1 h2; subst h1; subst h2; exact rfl
    | succ j=>
     simp only [List.getElem?_cons_succ,List.getElem?_map] at h1 h2
     cases hc:caps[j]? with
     | none=>simp [hc] at h1
     | some t=>simp [hc] at h1; subst h1; exact A0R (hv j t u hc h2))
   have e:(Value.func (.yield l) #[] #[]::vs).toArray= #[.func (.yield l) #[] #[]]++vs.toArray:=by apply Array.ext'; simp
   rw [e] at this
   exact this
  ·cases id with
   | zero=>simp at h1; subst h1; exact ⟨h0,hJ 0⟩
   | succ id=>simp at h1
 refine wpIn_mono ((hw l J Jx hJ hJx hY hNo).out w.heap.size [0] σ _ w hrel (fun l h=>by cases h) (Nat.le_refl _) (MarksOK.nil ..)) ?_
 rintro e a' w' ⟨ι',σ',st',⟨he,H1,hres'⟩,h1,h2,h3,Ds,h4,h5,h6⟩
 have fin:LeavesInM (Fr none) 9 P fn a'.tmps (fun e w'=>(∃v,e= .returned v)∧ ∃σ',J xs.length σ' w'∨Jx σ' w') a'.defers .returning w':=by
  rw [h4]
  have:=A19 (P:=P) (rd:=none) (fn:=fn) (tmps:=a'.tmps) (N:=w.heap.size) (R:=fun e w'=>(∃v,e= .returned v)∧ ∃σ',J xs.length σ' w'∨Jx σ' w') Ds w' h5 (fun D hD=>let ⟨q1,q2,q3,_⟩:=h6 D hD; ⟨q1,q2,q3⟩) (by
   intro w2 hb2 hc2 hx2 hd2 hdr2
   have hcalm: ∀g,Calm g σ' w' σ' w2:=fun g=>⟨hb2.os,hb2.tape,hb2.output,hb2.size,fun b o u h h'=>⟨h,by rw [hc2]; exact h'⟩,fun b hbl _ hgb=>⟨hd2 b (fun hD=>by
    have h7:=(h6 b hD).2.2.2 0
    rcases hgb 0 with h8 | h8<;>(rw [h7] at h8; cases h8)),fun _=>rfl⟩,Nat.le_of_eq hdr2.symm⟩
   obtain ⟨v,r1,_⟩:=A7y (r:= .tup []) (fn:=fn) (h1.cells hc2 (fun b ob h h' _=>hx2 b ob h h') hcalm) (by rw [hres]; rfl)
   refine ⟨v,r1,⟨v,rfl⟩,σ',?_⟩
   have hz: ∃b,ι'[0]? =some b:=⟨ι'[0]'(by rw [h1.heap.1]; rcases hres' with e | e<;>simp [e]),List.getElem?_eq_getElem _⟩
   obtain ⟨b0,hb0⟩:=hz
   rcases hres' with e | e
   ·exact .inl (hJ _ _ _ _ _ (hcalm 0) (h1.heap.2 0 (.ghost (J xs.length)) b0 (by rw [e]; rfl) hb0).1)
   ·exact .inr (hJx _ _ _ _ (hcalm 0) (h1.heap.2 0 (.ghost Jx) b0 (by rw [e]; rfl) hb0).1))
  exact this
 cases e with
 | normal=>exact fin
 | ret=>exact fin
 | exit id=>exact he.elim
 | goto l=>exact he.elim
 | panic ch=>exact he.elim
 | outgrown=>exact he.elim
theorem AWp.rangeFuncB {P:Program} {rd:Option Nat} {h:Nat} {Q:Exit→St→Prop} {g:Operand} {ps:Array Tmp} {assign body:Code} {tm0:List AVal} {H0:List Blk} {gf:FuncId} {caps:List Tree} {xs:List (List TVal)}
  (I:Nat→List Blk→Prop) (Ix:Exit→List Blk→Prop) (hb:Nat) (hg:aeval tm0 g= .c (.fn gf (caps.map .tree))) (hitN:AIterB P gf caps xs∧ ∀H,¬I xs.length H) (hps: ∀(k:Nat) (ts:List TVal),xs[k]? =some ts→ts.length=ps.size) (hh:h≤hb) (hin:A2b hb tm0)
  (hokI: ∀k H,I k H→ ∀blk,blk∈H→blk≠ .box []) (hokX: ∀e H,Ix e H→ ∀blk,blk∈H→blk≠ .box []) (h0:I 0 H0)
  (hround: ∀(l k:Nat) (ts:List TVal) (H:List Blk),xs[k]? =some ts→I k H→AWp P (some l) hb assign (A4j (AWp P (some l) hb body (RQ hb I Ix k)) (fun _ _=>False)) ⟨A53 tm0 ps.toList ts,H⟩)
  (hdone: ∀H,I xs.length H→Q .normal ⟨tm0,H⟩) (hstop: ∀e H,Ix e H→Q e ⟨tm0,H⟩):AWp P rd h (.rangeFunc g ps assign body) Q ⟨tm0,H0⟩:=by
 classical
 obtain ⟨hit,hNo⟩:=hitN
 refine ⟨fun N ι σ a w h1 h2 h3 h4=>wpIn_rangeFunc fun fn _=> ?_⟩
 obtain ⟨l,mark,W1,d,Ds,he,hmark,hnd,hDs,hl,hsz,hrec,hsame,hos,htape,hout,hdr⟩:=A6A (P:=P) h2 fn a.tmps ps assign body
 have hgv:=A0Q h1.tmps g
 rw [hg] at hgv
 obtain ⟨vs,ev,hvl,hvr⟩:=hgv
 have ev':a.eval g= .func (.func gf) #[] vs.toArray:=ev
 refine ⟨l,mark,W1,{ target:= .fn (.func gf) vs.toArray,args:= #[.func (.yield l) #[] #[]] },W1,gf,#[.func (.yield l) #[] #[]]++vs.toArray,W1,he,?_,fun _ _=>trivial,?_,fun h=>by simp [Fr] at h,?_⟩
 ·simp only [resolve,ev']
  simp [go_sem]
 ·simp [invoke,go_sem,hit.enters]
 let σc:Sig:=fun b o=>if w.heap.size≤b then .foreign else σ b o
 let σi:Sig:=fun b o=>if σ b o= .stable∧(∃u,w.cell? ⟨b,o,none⟩=some u) then .stable else .mine 0
 have sc: ∀b o,b<w.heap.size→σc b o=σ b o:=fun b o hb=>by simp [σc,Nat.not_le.2 hb]
 have scf: ∀b o,w.heap.size≤b→σc b o= .foreign:=fun b o hb=>by simp [σc,hb]
 have si: ∀{b o},σi b o= .stable→σ b o= .stable∧ ∃u,w.cell? ⟨b,o,none⟩=some u:=fun {b o} h=>by
  simp only [σi] at h; split at h
  ·assumption
  ·cases h
 have KB: ∀b,Kb σi b:=fun b=>by
  obtain ⟨o,ho⟩:=B43 w b
  refine ⟨⟨o,by simp [σi,ho]⟩,fun o=> ?_⟩
  simp only [σi]; split
  ·exact .inr rfl
  ·exact .inl rfl
 have hq:W1.os=w.os∧W1.tape=w.tape∧W1.output=w.output∧w.heap.size≤W1.heap.size∧w.drawn≤W1.drawn:=⟨hos,htape,hout,by omega,by omega⟩
 have M0:Mono ι σ w H0 ι σc W1 H0:=by simpa using Mono.grow (ι:=ι) (H:=H0) hsame sc [] []
 have HH:HRel ι σc W1 H0:=by simpa using h1.heap.grow hsame sc hq [] [] rfl (fun j blk b h1 _=>by simp at h1)
 have E0:Ext σ w σc W1:=Ext.grow hos htape hout (by omega) hsame sc (by omega)
 have B0:Base ι σ w H0 hb tm0 a l Ds { state:= .ready,pending:=none,fn,tmps:=a.tmps,params:=ps,assign,body,defers:=d } σi W1 ι σc H0:=by
  refine ⟨h1.tmps.mono M0,HH,hokI 0 H0 h0,E0,M0.take hb,hrec,fun o=>scf l o hl,fun D hD=>⟨(hDs D hD).2.2,fun o=>scf D o (hDs D hD).1⟩,fun b hbw hm=>⟨KB b,fun o ho=> ?_⟩,fun b o _=> .inl (KB b),fun b _=>KB b,fun b o _ ho=>by rw [(si ho).1]; simp,fun b o hb=>scf b o (by omega)⟩
  obtain ⟨q1,u,q2⟩:=si ho
  have:=cell_lt q2
  exact ⟨by rw [sc b o this]; exact q1,u,by rw [cell_of_heap (hsame b this)]; exact q2⟩
 have hDs': ∀D,D∈Ds→w.heap.size≤D∧D<l:=fun D hD=>⟨(hDs D hD).1,(hDs D hD).2.1⟩
 have run:=hit.runs l
  (fun k σ' w'=> ∃ιc σc H,I k H∧Base ι σ w H0 hb tm0 a l Ds { state:= .ready,pending:=none,fn,tmps:=a.tmps,params:=ps,assign,body,defers:=d } σ' w' ιc σc H)
  (fun σ' w'=> ∃ιc σc H e c,codeOf e=some c∧Ix e H∧Base ι σ w H0 hb tm0 a l Ds { state:= .done,pending:=some c,fn,tmps:=a.tmps,params:=ps,assign,body,defers:=d } σ' w' ιc σc H)
  (fun k σ1 w1 σ2 w2 c ⟨ιc,σc,H,q1,q2⟩=>⟨ιc,σc,H,q1,q2.calm hl (fun D hD=>(hDs' D hD).2) c⟩)
  (fun σ1 w1 σ2 w2 c ⟨ιc,σc,H,e,cd,q0,q1,q2⟩=>⟨ιc,σc,H,e,cd,q0,q1,q2.calm hl (fun D hD=>(hDs' D hD).2) c⟩)
  (fun k ts hk=>B8P hl hDs' hin (hps k ts hk) (hokI (k+1)) hokX (fun H hI=>hround l k ts H hk hI))
  (fun σ1 w1 ⟨ιc,σc,H,q1,_⟩=>hNo H q1)
  σi W1 vs (by simpa using hvl) (fun j t u h5 h6=>by
   have:=hvr j (.tree t) u (by simp [h5]) h6
   have this:TRel (Stab σ) w t u:=this
   exact this.mono fun b o u h7 h8=>⟨by show σi b o= .stable; simp only [σi]; rw [if_pos ⟨h7,u,h8⟩],by rw [cell_of_heap (hsame b (cell_lt h8))]; exact h8⟩)
  ⟨ι,σc,H0,h0,B0⟩
 refine (A3O (rd':=rd) (m:=9-1) run).mono ?_
 rintro e w3 ⟨⟨v,rfl⟩,σ',hJ⟩
 have post: ∀{r:Loop} {σ':Sig} {ιc:List Nat} {σc:Sig} {H:List Blk} (r':Loop) (e:Exit),Base ι σ w H0 hb tm0 a l Ds r σ' w3 ιc σc H→Q e ⟨tm0,H⟩→APost N h ι σ w H0 Q e { a with defers:=mark++a.defers } (w3.putObj l (.loop r')):=by
  intro r σ' ιc σc H r' e B hQ
  have B':=B.put r' hl
  refine ⟨ιc,σc,⟨tm0,H⟩,hQ,⟨B'.tmps,B'.heap⟩,B'.ext,B'.mono.le hh,?_⟩
  obtain ⟨Ds0,e0,n0,hD0⟩:=h4
  refine ⟨Ds++Ds0,by simp [hmark,e0],List.nodup_append.2 ⟨hnd,n0,fun x hx y hy=> ?_⟩,fun D hD=> ?_⟩
  ·have:=(hDs x hx).1; have:=(hD0 y hy).2.1; omega
  ·rcases List.mem_append.1 hD with hD | hD
   ·obtain ⟨p1,p2⟩:=B'.dfr D hD
    have:=(hDs D hD).1
    exact ⟨by omega,(Array.getElem?_eq_some_iff.1 p1).1,p1,p2⟩
   ·obtain ⟨p1,p2,p3,p4⟩:=hD0 D hD
    have p5:=(B'.ext.obj D p2 (fun o id=>by rw [p4]; simp)).1.trans p3
    exact ⟨p1,(Array.getElem?_eq_some_iff.1 p5).1,p5,fun o=>B'.ext.back D o p2 (p4 o)⟩
 rcases hJ with ⟨ιc,σc,H,hI,B⟩ | ⟨ιc,σc,H,e,c,hc,hI,B⟩
 ·exact ⟨none,_,run_endLoop B.rcd (by simp),post _ .normal B (hdone H hI)⟩
 ·refine ⟨some c,_,run_endLoop B.rcd (by simp),?_⟩
  have hp:=post { state:= .exhausted,pending:=some c,fn,tmps:=a.tmps,params:=ps,assign,body,defers:=d } e B (hstop e H hI)
  cases e with
  | ret=>simp [codeOf] at hc; subst hc; exact wpIn_ret hp
  | exit id=>simp [codeOf] at hc; subst hc; exact wpIn_exit hp
  | _=>simp [codeOf] at hc
end Go.Sp
